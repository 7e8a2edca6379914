/- The laws of layer 9, walked: MaskFours, MaskCommon. -/
import Derived.Test.YtobpocdpnkicnaaML
namespace Go.Proofs.Ytobpocdpnkicnaa
open Go.RowKit
set_option linter.unusedVariables false
/-- What a colour's word is told of by four masks that are a set. -/
theorem color_same (l : Nat → Int) (width word : Int) (h : (scan4 (pstep l width)).2 = 0) (w : World) :
    Calls Try.prog 28 #[.agg #[.int .i64 (findI (l 0) width).1, .int .i64 (findI (l 0) width).2.1, .int .i64 (findI (l 1) width).1, .int .i64 (findI (l 1) width).2.1, .int .i64 (findI (l 2) width).1, .int .i64 (findI (l 2) width).2.1, .int .i64 (findI (l 3) width).1, .int .i64 (findI (l 3) width).2.1], .int .i64 word] w fun e w' =>
      e = .returned (.agg #[.int .u8 (chR word (l 0) 0), .int .u8 (chR word (l 1) 0), .int .u8 (chR word (l 2) 0), .int .u8 (chR word (l 3) 255)]) ∧ Below w.heap.size w w' := by
  obtain ⟨p0, p1, p2, p3⟩ := scan_ok _ h
  obtain ⟨c0, o0⟩ := chan_same (l 0) width word 0 (pstep_ok l width 0 p0)
  obtain ⟨c1, o1⟩ := chan_same (l 1) width word 0 (pstep_ok l width 1 p1)
  obtain ⟨c2, o2⟩ := chan_same (l 2) width word 0 (pstep_ok l width 2 p2)
  obtain ⟨c3, o3⟩ := chan_same (l 3) width word 255 (pstep_ok l width 3 p3)
  refine (color_any _ _ _ _ _ _ _ _ word w o0 o1 o2 o3).mono fun e w' hh => ?_
  rw [c0, c1, c2, c3] at hh; exact hh
theorem fours_walk' (l : Nat → Int) (width word : Int) (w : World) : Calls Try.prog 8 #[.int .i64 (l 0), .int .i64 (l 1), .int .i64 (l 2), .int .i64 (l 3), .int .i64 width, .int .i64 word] w (True9 w) := by
  obtain ⟨i, f, hif⟩ : ∃ i f, scan4 (pstep l width) = (i, f) := ⟨_, _, rfl⟩
  have hif2 : scan4 (rstep l width) = (i, f) := by rw [← scan_same]; exact hif
  by_cases hf : f = 0
  · have hok : (scan4 (pstep l width)).2 = 0 := by rw [hif]; exact hf
    obtain ⟨p0, p1, p2, p3⟩ := scan_ok _ hok
    obtain ⟨r00, r01⟩ := findI_ok _ _ (pstep_ok l width 0 p0)
    obtain ⟨r10, r11⟩ := findI_ok _ _ (pstep_ok l width 1 p1)
    obtain ⟨r20, r21⟩ := findI_ok _ _ (pstep_ok l width 2 p2)
    obtain ⟨r30, r31⟩ := findI_ok _ _ (pstep_ok l width 3 p3)
    have HC := Lib.hid (fun w0 => color_same l width word hok w0)
    have HR := Lib.hid (fun w0 => rcolor_any word (l 0) (l 1) (l 2) (l 3) w0 r00 r01 r10 r11 r20 r21 r30 r31)
    obtain ⟨x0, x1, x2, x3, x4, x5, x6, x7, hx⟩ : ∃ x0 x1 x2 x3 x4 x5 x6 x7 : Int, x0 = (findI (l 0) width).1 ∧ x1 = (findI (l 0) width).2.1 ∧ x2 = (findI (l 1) width).1 ∧ x3 = (findI (l 1) width).2.1 ∧ x4 = (findI (l 2) width).1 ∧ x5 = (findI (l 2) width).2.1 ∧ x6 = (findI (l 3) width).1 ∧ x7 = (findI (l 3) width).2.1 := ⟨_, _, _, _, _, _, _, _, rfl, rfl, rfl, rfl, rfl, rfl, rfl, rfl⟩
    obtain ⟨h0, h1, h2, h3, h4, h5, h6, h7⟩ := hx
    have HF := Lib.hid (fun w0 => (four_any l width w0).mono (R' := fun e w' => e = .returned (.tuple #[.agg #[.int .i64 x0, .int .i64 x1, .int .i64 x2, .int .i64 x3, .int .i64 x4, .int .i64 x5, .int .i64 x6, .int .i64 x7], .int .i64 i, .int .i64 0]) ∧ Below w0.heap.size w0 w') fun e w' hh => by
      obtain ⟨g1, g2⟩ := hh; rw [if_pos hok, hif, hf, ← h0, ← h1, ← h2, ← h3, ← h4, ← h5, ← h6, ← h7] at g2; exact ⟨g2, g1⟩)
    rw [← h0, ← h1, ← h2, ← h3, ← h4, ← h5, ← h6, ← h7] at HC
    have RF := Lib.hid (fun (B : Nat) (w0 : World) hB hc => (rfour_any l width B w0 hB hc).mono (R' := fun e w' => e = .returned (.tuple #[.int .i64 i, .int .i64 0]) ∧ Below w0.heap.size w0 w') fun e w' hh => by
      obtain ⟨g1, g2⟩ := hh; rw [hif2, hf] at g1; exact ⟨g1, g2⟩)
    clear h0 h1 h2 h3 h4 h5 h6 h7 hok hif hif2 hf p0 p1 p2 p3 r00 r01 r10 r11 r20 r21 r30 r31
    go_enter Try.func8, Try.ntmps8
    go_wp2_with (first
      | (go_at_call 37; (with_reducible refine (HF.out _).mono ?_); rintro e w1 ⟨rfl, hb1⟩; obtain ⟨hc1, hf1⟩ := bcell hb1)
      | (go_at_call 38; (with_reducible refine (RF.out _ _ (by simp) (by intro i hi; rcases (show i = 0 ∨ i = 1 ∨ i = 2 ∨ i = 3 by omega) with rfl | rfl | rfl | rfl <;> simp [go_sem])).mono ?_); rintro e w2 ⟨rfl, hb2⟩; obtain ⟨hc2, hf2⟩ := bcell hb2; have hzhb2_0 : w1.heap.size < w2.heap.size := (by have h_ := bsz hb2; (try simp at h_); omega))
      | (go_at_call 28; (with_reducible refine (HC.out _).mono ?_); rintro e w3 ⟨rfl, hb3⟩; obtain ⟨hc3, hf3⟩ := bcell hb3)
      | (go_at_call 29; (with_reducible refine (HR.out _).mono ?_); rintro e w4 ⟨rfl, hb4⟩; obtain ⟨hc4, hf4⟩ := bcell hb4)
      | (go_at_call 30; (with_reducible refine (awake9 _).mono ?_); rintro e w5 ⟨rfl, hb5⟩; obtain ⟨hc5, hf5⟩ := bcell hb5))
    go_ret
    have B_hb1 : Below w.heap.size w w1 := bthen hb1 (by (repeat' (first | (with_reducible exact Below.refl _ _) | (with_reducible assumption) | (with_reducible refine bdrew ?_ _) | (with_reducible refine Below.alloc ?_ ?_ _) | (with_reducible refine Below.drew ?_) | (with_reducible refine Below.setCell ?_ ?_ _) | go_size))) (by go_size)
    have S_hb1 : w.heap.size ≤ w1.heap.size := B_hb1.size
    have B_hb2 : Below w.heap.size w w2 := bthen hb2 (by (repeat' (first | (with_reducible exact Below.refl _ _) | (with_reducible assumption) | (with_reducible refine bdrew ?_ _) | (with_reducible refine Below.alloc ?_ ?_ _) | (with_reducible refine Below.drew ?_) | (with_reducible refine Below.setCell ?_ ?_ _) | go_size))) (by go_size)
    have S_hb2 : w.heap.size ≤ w2.heap.size := B_hb2.size
    have B_hb3 : Below w.heap.size w w3 := bthen hb3 (by (repeat' (first | (with_reducible exact Below.refl _ _) | (with_reducible assumption) | (with_reducible refine bdrew ?_ _) | (with_reducible refine Below.alloc ?_ ?_ _) | (with_reducible refine Below.drew ?_) | (with_reducible refine Below.setCell ?_ ?_ _) | go_size))) (by go_size)
    have S_hb3 : w.heap.size ≤ w3.heap.size := B_hb3.size
    have B_hb4 : Below w.heap.size w w4 := bthen hb4 (by (repeat' (first | (with_reducible exact Below.refl _ _) | (with_reducible assumption) | (with_reducible refine bdrew ?_ _) | (with_reducible refine Below.alloc ?_ ?_ _) | (with_reducible refine Below.drew ?_) | (with_reducible refine Below.setCell ?_ ?_ _) | go_size))) (by go_size)
    have S_hb4 : w.heap.size ≤ w4.heap.size := B_hb4.size
    have B_hb5 : Below w.heap.size w w5 := bthen hb5 (by (repeat' (first | (with_reducible exact Below.refl _ _) | (with_reducible assumption) | (with_reducible refine bdrew ?_ _) | (with_reducible refine Below.alloc ?_ ?_ _) | (with_reducible refine Below.drew ?_) | (with_reducible refine Below.setCell ?_ ?_ _) | go_size))) (by go_size)
    have S_hb5 : w.heap.size ≤ w5.heap.size := B_hb5.size
    exact ⟨rfl, B_hb5⟩
  · have hne : (f != 0) = true := by simpa using hf
    have HF := Lib.hid (fun w0 => (four_any l width w0).mono (R' := fun e w' => e = .returned (.tuple #[.agg #[.int .i64 0, .int .i64 0, .int .i64 0, .int .i64 0, .int .i64 0, .int .i64 0, .int .i64 0, .int .i64 0], .int .i64 i, .int .i64 f]) ∧ Below w0.heap.size w0 w') fun e w' hh => by
      obtain ⟨g1, g2⟩ := hh; rw [if_neg (by rw [hif]; exact hf), hif] at g2; exact ⟨g2, g1⟩)
    have RF := Lib.hid (fun (B : Nat) (w0 : World) hB hc => (rfour_any l width B w0 hB hc).mono (R' := fun e w' => e = .returned (.tuple #[.int .i64 i, .int .i64 f]) ∧ Below w0.heap.size w0 w') fun e w' hh => by
      obtain ⟨g1, g2⟩ := hh; rw [hif2] at g1; exact ⟨g1, g2⟩)
    clear hif hif2 hf
    go_enter Try.func8, Try.ntmps8
    go_wp2_with (first
      | (go_at_call 37; (with_reducible refine (HF.out _).mono ?_); rintro e w1 ⟨rfl, hb1⟩; obtain ⟨hc1, hf1⟩ := bcell hb1)
      | (go_at_call 38; (with_reducible refine (RF.out _ _ (by simp) (by intro i hi; rcases (show i = 0 ∨ i = 1 ∨ i = 2 ∨ i = 3 by omega) with rfl | rfl | rfl | rfl <;> simp [go_sem])).mono ?_); rintro e w2 ⟨rfl, hb2⟩; obtain ⟨hc2, hf2⟩ := bcell hb2; have hzhb2_0 : w1.heap.size < w2.heap.size := (by have h_ := bsz hb2; (try simp at h_); omega))
      | (go_at_call 30; (with_reducible refine (awake9 _).mono ?_); rintro e w5 ⟨rfl, hb5⟩; obtain ⟨hc5, hf5⟩ := bcell hb5))
    go_ret
    have B_hb1 : Below w.heap.size w w1 := bthen hb1 (by (repeat' (first | (with_reducible exact Below.refl _ _) | (with_reducible assumption) | (with_reducible refine bdrew ?_ _) | (with_reducible refine Below.alloc ?_ ?_ _) | (with_reducible refine Below.drew ?_) | (with_reducible refine Below.setCell ?_ ?_ _) | go_size))) (by go_size)
    have S_hb1 : w.heap.size ≤ w1.heap.size := B_hb1.size
    have B_hb2 : Below w.heap.size w w2 := bthen hb2 (by (repeat' (first | (with_reducible exact Below.refl _ _) | (with_reducible assumption) | (with_reducible refine bdrew ?_ _) | (with_reducible refine Below.alloc ?_ ?_ _) | (with_reducible refine Below.drew ?_) | (with_reducible refine Below.setCell ?_ ?_ _) | go_size))) (by go_size)
    have S_hb2 : w.heap.size ≤ w2.heap.size := B_hb2.size
    have B_hb5 : Below w.heap.size w w5 := bthen hb5 (by (repeat' (first | (with_reducible exact Below.refl _ _) | (with_reducible assumption) | (with_reducible refine bdrew ?_ _) | (with_reducible refine Below.alloc ?_ ?_ _) | (with_reducible refine Below.drew ?_) | (with_reducible refine Below.setCell ?_ ?_ _) | go_size))) (by go_size)
    have S_hb5 : w.heap.size ≤ w5.heap.size := B_hb5.size
    exact ⟨rfl, B_hb5⟩
theorem fours_walk (r g b a width word : Int) (_ : (Lit.int .i64 r).wf = true) (_ : (Lit.int .i64 g).wf = true) (_ : (Lit.int .i64 b).wf = true) (_ : (Lit.int .i64 a).wf = true) (_ : (Lit.int .i64 width).wf = true) (_ : (Lit.int .i64 word).wf = true) (w : World) :
    Calls Try.prog 8 #[.int .i64 r, .int .i64 g, .int .i64 b, .int .i64 a, .int .i64 width, .int .i64 word] w fun e w' => e = .returned (.bool true) ∧ Below w.heap.size w w' :=
  fours_walk' (fun i => if i = 0 then r else if i = 1 then g else if i = 2 then b else a) width word w
/-! ### MaskCommon -/
theorem chan_of (m width s b word none : Int) (h : findI m width = (s, b, 0)) : chI s b word none = chR word m none ∧ okM s b := by
  have := chan_same m width word none (by rw [h]); rw [h] at this; exact this
theorem color16 (word : Int) (w : World) : Calls Try.prog 28 #[.agg #[.int .i64 10, .int .i64 5, .int .i64 5, .int .i64 5, .int .i64 0, .int .i64 5, .int .i64 0, .int .i64 0], .int .i64 word] w fun e w' =>
      e = .returned (.agg #[.int .u8 (chR word 31744 0), .int .u8 (chR word 992 0), .int .u8 (chR word 31 0), .int .u8 (chR word 0 255)]) ∧ Below w.heap.size w w' := by
  obtain ⟨c0, o0⟩ := chan_of 31744 16 10 5 word 0 (by decide +kernel)
  obtain ⟨c1, o1⟩ := chan_of 992 16 5 5 word 0 (by decide +kernel)
  obtain ⟨c2, o2⟩ := chan_of 31 16 0 5 word 0 (by decide +kernel)
  obtain ⟨c3, o3⟩ := chan_of 0 16 0 0 word 255 (by decide +kernel)
  refine (color_any _ _ _ _ _ _ _ _ word w o0 o1 o2 o3).mono fun e w' hh => ?_
  rw [c0, c1, c2, c3] at hh; exact hh
theorem color32 (word : Int) (w : World) : Calls Try.prog 28 #[.agg #[.int .i64 16, .int .i64 8, .int .i64 8, .int .i64 8, .int .i64 0, .int .i64 8, .int .i64 0, .int .i64 0], .int .i64 word] w fun e w' =>
      e = .returned (.agg #[.int .u8 (chR word 16711680 0), .int .u8 (chR word 65280 0), .int .u8 (chR word 255 0), .int .u8 (chR word 0 255)]) ∧ Below w.heap.size w w' := by
  obtain ⟨c0, o0⟩ := chan_of 16711680 32 16 8 word 0 (by decide +kernel)
  obtain ⟨c1, o1⟩ := chan_of 65280 32 8 8 word 0 (by decide +kernel)
  obtain ⟨c2, o2⟩ := chan_of 255 32 0 8 word 0 (by decide +kernel)
  obtain ⟨c3, o3⟩ := chan_of 0 32 0 0 word 255 (by decide +kernel)
  refine (color_any _ _ _ _ _ _ _ _ word w o0 o1 o2 o3).mono fun e w' hh => ?_
  rw [c0, c1, c2, c3] at hh; exact hh
theorem common_walk (n word : Int) (_ : (Lit.int .i64 n).wf = true) (_ : (Lit.int .i64 word).wf = true) (w : World) :
    Calls Try.prog 5 #[.int .i64 n, .int .i64 word] w fun e w' => e = .returned (.bool true) ∧ Below w.heap.size w w' := by
  show Calls Try.prog 5 _ w (True9 w)
  by_cases h1 : n = 16
  · subst h1
    have HR := Lib.hid (fun w0 => rcolor_any word 31744 992 31 0 w0 (by decide) (by decide) (by decide) (by decide) (by decide) (by decide) (by decide) (by decide))
    go_enter Try.func5, Try.ntmps5
    go_wp2_with (first
      | (go_at_call 27; (with_reducible refine (common16 _).mono ?_); rintro e w1 ⟨rfl, hb1⟩; obtain ⟨hc1, hf1⟩ := bcell hb1)
      | (go_at_call 28; (with_reducible refine (color16 word _).mono ?_); rintro e w3 ⟨rfl, hb3⟩; obtain ⟨hc3, hf3⟩ := bcell hb3)
      | (go_at_call 29; (with_reducible refine (HR.out _).mono ?_); rintro e w4 ⟨rfl, hb4⟩; obtain ⟨hc4, hf4⟩ := bcell hb4)
      | (go_at_call 30; (with_reducible refine (awake9 _).mono ?_); rintro e w5 ⟨rfl, hb5⟩; obtain ⟨hc5, hf5⟩ := bcell hb5))
    go_ret
    have B_hb1 : Below w.heap.size w w1 := bthen hb1 (by (repeat' (first | (with_reducible exact Below.refl _ _) | (with_reducible assumption) | (with_reducible refine bdrew ?_ _) | (with_reducible refine Below.alloc ?_ ?_ _) | (with_reducible refine Below.drew ?_) | (with_reducible refine Below.setCell ?_ ?_ _) | go_size))) (by go_size)
    have S_hb1 : w.heap.size ≤ w1.heap.size := B_hb1.size
    have B_hb3 : Below w.heap.size w w3 := bthen hb3 (by (repeat' (first | (with_reducible exact Below.refl _ _) | (with_reducible assumption) | (with_reducible refine bdrew ?_ _) | (with_reducible refine Below.alloc ?_ ?_ _) | (with_reducible refine Below.drew ?_) | (with_reducible refine Below.setCell ?_ ?_ _) | go_size))) (by go_size)
    have S_hb3 : w.heap.size ≤ w3.heap.size := B_hb3.size
    have B_hb4 : Below w.heap.size w w4 := bthen hb4 (by (repeat' (first | (with_reducible exact Below.refl _ _) | (with_reducible assumption) | (with_reducible refine bdrew ?_ _) | (with_reducible refine Below.alloc ?_ ?_ _) | (with_reducible refine Below.drew ?_) | (with_reducible refine Below.setCell ?_ ?_ _) | go_size))) (by go_size)
    have S_hb4 : w.heap.size ≤ w4.heap.size := B_hb4.size
    have B_hb5 : Below w.heap.size w w5 := bthen hb5 (by (repeat' (first | (with_reducible exact Below.refl _ _) | (with_reducible assumption) | (with_reducible refine bdrew ?_ _) | (with_reducible refine Below.alloc ?_ ?_ _) | (with_reducible refine Below.drew ?_) | (with_reducible refine Below.setCell ?_ ?_ _) | go_size))) (by go_size)
    have S_hb5 : w.heap.size ≤ w5.heap.size := B_hb5.size
    exact ⟨rfl, B_hb5⟩
  · by_cases h2 : n = 32
    · subst h2
      have HR := Lib.hid (fun w0 => rcolor_any word 16711680 65280 255 0 w0 (by decide) (by decide) (by decide) (by decide) (by decide) (by decide) (by decide) (by decide))
      clear h1
      go_enter Try.func5, Try.ntmps5
      go_wp2_with (first
        | (go_at_call 27; (with_reducible refine (common32 _).mono ?_); rintro e w1 ⟨rfl, hb1⟩; obtain ⟨hc1, hf1⟩ := bcell hb1)
        | (go_at_call 28; (with_reducible refine (color32 word _).mono ?_); rintro e w3 ⟨rfl, hb3⟩; obtain ⟨hc3, hf3⟩ := bcell hb3)
        | (go_at_call 29; (with_reducible refine (HR.out _).mono ?_); rintro e w4 ⟨rfl, hb4⟩; obtain ⟨hc4, hf4⟩ := bcell hb4)
        | (go_at_call 30; (with_reducible refine (awake9 _).mono ?_); rintro e w5 ⟨rfl, hb5⟩; obtain ⟨hc5, hf5⟩ := bcell hb5))
      go_ret
      have B_hb1 : Below w.heap.size w w1 := bthen hb1 (by (repeat' (first | (with_reducible exact Below.refl _ _) | (with_reducible assumption) | (with_reducible refine bdrew ?_ _) | (with_reducible refine Below.alloc ?_ ?_ _) | (with_reducible refine Below.drew ?_) | (with_reducible refine Below.setCell ?_ ?_ _) | go_size))) (by go_size)
      have S_hb1 : w.heap.size ≤ w1.heap.size := B_hb1.size
      have B_hb3 : Below w.heap.size w w3 := bthen hb3 (by (repeat' (first | (with_reducible exact Below.refl _ _) | (with_reducible assumption) | (with_reducible refine bdrew ?_ _) | (with_reducible refine Below.alloc ?_ ?_ _) | (with_reducible refine Below.drew ?_) | (with_reducible refine Below.setCell ?_ ?_ _) | go_size))) (by go_size)
      have S_hb3 : w.heap.size ≤ w3.heap.size := B_hb3.size
      have B_hb4 : Below w.heap.size w w4 := bthen hb4 (by (repeat' (first | (with_reducible exact Below.refl _ _) | (with_reducible assumption) | (with_reducible refine bdrew ?_ _) | (with_reducible refine Below.alloc ?_ ?_ _) | (with_reducible refine Below.drew ?_) | (with_reducible refine Below.setCell ?_ ?_ _) | go_size))) (by go_size)
      have S_hb4 : w.heap.size ≤ w4.heap.size := B_hb4.size
      have B_hb5 : Below w.heap.size w w5 := bthen hb5 (by (repeat' (first | (with_reducible exact Below.refl _ _) | (with_reducible assumption) | (with_reducible refine bdrew ?_ _) | (with_reducible refine Below.alloc ?_ ?_ _) | (with_reducible refine Below.drew ?_) | (with_reducible refine Below.setCell ?_ ?_ _) | go_size))) (by go_size)
      have S_hb5 : w.heap.size ≤ w5.heap.size := B_hb5.size
      exact ⟨rfl, B_hb5⟩
    · have g1 : (n == 16) = false := by simpa using h1
      have g2 : (n == 32) = false := by simpa using h2
      clear h1 h2
      go_enter Try.func5, Try.ntmps5
      go_wp2_with (first
        | (go_at_call 27; (with_reducible refine (common_no _ _ g1 g2).mono ?_); rintro e w1 ⟨rfl, hb1⟩; obtain ⟨hc1, hf1⟩ := bcell hb1)
        | (go_at_call 30; (with_reducible refine (awake9 _).mono ?_); rintro e w5 ⟨rfl, hb5⟩; obtain ⟨hc5, hf5⟩ := bcell hb5))
      go_ret
      have B_hb1 : Below w.heap.size w w1 := bthen hb1 (by (repeat' (first | (with_reducible exact Below.refl _ _) | (with_reducible assumption) | (with_reducible refine bdrew ?_ _) | (with_reducible refine Below.alloc ?_ ?_ _) | (with_reducible refine Below.drew ?_) | (with_reducible refine Below.setCell ?_ ?_ _) | go_size))) (by go_size)
      have S_hb1 : w.heap.size ≤ w1.heap.size := B_hb1.size
      have B_hb5 : Below w.heap.size w w5 := bthen hb5 (by (repeat' (first | (with_reducible exact Below.refl _ _) | (with_reducible assumption) | (with_reducible refine bdrew ?_ _) | (with_reducible refine Below.alloc ?_ ?_ _) | (with_reducible refine Below.drew ?_) | (with_reducible refine Below.setCell ?_ ?_ _) | go_size))) (by go_size)
      have S_hb5 : w.heap.size ≤ w5.heap.size := B_hb5.size
      exact ⟨rfl, B_hb5⟩
end Go.Proofs.Ytobpocdpnkicnaa

/- The laws of layer 9, walked: MaskFinds, MaskFours, MaskCommon. -/
import Derived.Test.YtobpocdpnkicnaaMQ
namespace Go.Proofs.Ytobpocdpnkicnaa
open Go.RowKit
def True9 (w : World) (e : Ending) (w' : World) : Prop := e = .returned (.bool true) ∧ Below w.heap.size w w'
theorem find_ex : findI 31744 16 = (10, 5, 0) := by decide +kernel
theorem ch_ex (s : Int) (h : s = 10 ∨ s = 5 ∨ s = 0) : chI s 5 32767 0 = 255 := by rcases h with rfl | rfl | rfl <;> decide +kernel
theorem ch_none (word n : Int) : chI 0 0 word n = n := rfl
theorem ok5 (s : Int) (h : s = 10 ∨ s = 5 ∨ s = 0) : okM s 5 := Or.inr (by rcases h with rfl | rfl | rfl <;> decide +kernel)
theorem ok8 (s : Int) (h : s = 16 ∨ s = 8 ∨ s = 0) : okM s 8 := Or.inr (by rcases h with rfl | rfl | rfl <;> decide +kernel)
theorem ok0 : okM 0 0 := Or.inl ⟨rfl, rfl⟩
theorem find_ex_any (w : World) : Calls Try.prog 31 #[.int .i64 31744, .int .i64 16] w fun e w' => e = .returned (.tuple #[.agg #[.int .i64 10, .int .i64 5], .int .i64 0]) ∧ Below w.heap.size w w' :=
  (find_any 31744 16 w).mono fun e w' h => by obtain ⟨h1, h2⟩ := h; rw [find_ex] at h1; exact ⟨h1, h2⟩
theorem color_ex (w : World) : Calls Try.prog 28 #[.agg #[.int .i64 10, .int .i64 5, .int .i64 5, .int .i64 5, .int .i64 0, .int .i64 5, .int .i64 0, .int .i64 0], .int .i64 32767] w fun e w' =>
      e = .returned (.agg #[.int .u8 255, .int .u8 255, .int .u8 255, .int .u8 255]) ∧ Below w.heap.size w w' :=
  (color_any 10 5 5 5 0 5 0 0 32767 w (ok5 _ (by simp)) (ok5 _ (by simp)) (ok5 _ (by simp)) ok0).mono fun e w' h => by
    obtain ⟨h1, h2⟩ := h; rw [ch_ex 10 (by simp), ch_ex 5 (by simp), ch_ex 0 (by simp), ch_none] at h1; exact ⟨h1, h2⟩
theorem awake9 (w : World) : Calls Try.prog 30 #[] w (True9 w) := by
  go_enter Try.func30, Try.ntmps30
  go_wp2_with (first
    | (go_at_call 31; (with_reducible refine (find_ex_any _).mono ?_); rintro e w1 ⟨rfl, hb1⟩; obtain ⟨hc1, hf1⟩ := bcell hb1)
    | (go_at_call 27; (with_reducible refine (common16 _).mono ?_); rintro e w2 ⟨rfl, hb2⟩; obtain ⟨hc2, hf2⟩ := bcell hb2; have hzhb2_0 : w1.heap.size < w2.heap.size := (by have h_ := bsz hb2; (try simp at h_); omega))
    | (go_at_call 28; (with_reducible refine (color_ex _).mono ?_); rintro e w3 ⟨rfl, hb3⟩; obtain ⟨hc3, hf3⟩ := bcell hb3; have hzhb3_0 : w1.heap.size < w3.heap.size := (by have h_ := bsz hb3; (try simp at h_); omega)))
  go_ret
  have B_hb1 : Below w.heap.size w w1 := bthen hb1 (by (repeat' (first | (with_reducible exact Below.refl _ _) | (with_reducible assumption) | (with_reducible refine bdrew ?_ _) | (with_reducible refine Below.alloc ?_ ?_ _) | (with_reducible refine Below.drew ?_) | (with_reducible refine Below.setCell ?_ ?_ _) | go_size))) (by go_size)
  have S_hb1 : w.heap.size ≤ w1.heap.size := B_hb1.size
  have B_hb2 : Below w.heap.size w w2 := bthen hb2 (by (repeat' (first | (with_reducible exact Below.refl _ _) | (with_reducible assumption) | (with_reducible refine bdrew ?_ _) | (with_reducible refine Below.alloc ?_ ?_ _) | (with_reducible refine Below.drew ?_) | (with_reducible refine Below.setCell ?_ ?_ _) | go_size))) (by go_size)
  have S_hb2 : w.heap.size ≤ w2.heap.size := B_hb2.size
  have B_hb3 : Below w.heap.size w w3 := bthen hb3 (by (repeat' (first | (with_reducible exact Below.refl _ _) | (with_reducible assumption) | (with_reducible refine bdrew ?_ _) | (with_reducible refine Below.alloc ?_ ?_ _) | (with_reducible refine Below.drew ?_) | (with_reducible refine Below.setCell ?_ ?_ _) | go_size))) (by go_size)
  have S_hb3 : w.heap.size ≤ w3.heap.size := B_hb3.size
  exact ⟨rfl, B_hb3⟩

/-! ### MaskFinds -/
theorem find_bad (m width : Int) (h : (findI m width).2.2 ≠ 0 ∨ m = 0) : (findI m width).1 = 0 ∧ (findI m width).2.1 = 0 := by
  unfold findI at h ⊢
  by_cases h1 : ¬ width = 16 ∧ ¬ width = 32
  · rw [if_pos h1]; exact ⟨rfl, rfl⟩
  · rw [if_neg h1] at h ⊢
    by_cases h2 : m < 0 ∨ 2 ^ width.toNat - 1 < m
    · rw [if_pos h2]; exact ⟨rfl, rfl⟩
    · rw [if_neg h2] at h ⊢
      by_cases h3 : m = 0
      · rw [if_pos h3]; exact ⟨rfl, rfl⟩
      · rw [if_neg h3] at h ⊢
        by_cases h4 : m / 2 ^ (fS m + fB m) = 0
        · rw [if_pos h4] at h; simp [h3] at h
        · rw [if_neg h4]; exact ⟨rfl, rfl⟩
theorem finds_bad (m width word : Int) (w : World) (h : (findI m width).2.2 ≠ 0 ∨ m = 0) : Calls Try.prog 6 #[.int .i64 m, .int .i64 width, .int .i64 word] w (True9 w) := by
  obtain ⟨e1, e2⟩ := find_bad m width h
  obtain ⟨g1, g2, _, _, _⟩ := find_same m width
  obtain ⟨f, hf⟩ : ∃ f, (findI m width).2.2 = f := ⟨_, rfl⟩
  have HF := Lib.hid (fun w0 => (find_any m width w0).mono (R' := fun e w' => e = .returned (.tuple #[.agg #[.int .i64 0, .int .i64 0], .int .i64 f]) ∧ Below w0.heap.size w0 w') fun e w' hh => by obtain ⟨h1, h2⟩ := hh; rw [e1, e2, hf] at h1; exact ⟨h1, h2⟩)
  obtain ⟨fr, hfr⟩ : ∃ f, (rfindI m width).1 = f := ⟨_, rfl⟩
  have HR := Lib.hid (fun w0 => (rfind_any m width w0).mono (R' := fun e w' => e = .returned (.tuple #[.int .i64 fr, .int .i64 0, .int .i64 f]) ∧ w0 = w') fun e w' hh => by obtain ⟨h1, h2⟩ := hh; rw [← g1, ← g2, e2, hf, hfr] at h1; exact ⟨h1, h2⟩)
  have OF := Lib.hid (fun w0 => of_no 0 0 word w0 (by decide))
  have WD := Lib.hid (fun w0 => (mword_any 0 0 w0).mono (R' := fun e w' => e = .returned (.int .i64 0) ∧ Below w0.heap.size w0 w') fun e w' hh => hh)
  have hfz : m ≠ 0 → f ≠ 0 := by
    intro hm
    rcases h with h | h
    · rw [← hf]; exact h
    · exact absurd h hm
  clear e1 e2 g1 g2 hfr hf h
  by_cases h : f = 0
  · obtain rfl : m = 0 := Decidable.not_not.1 (fun hm => hfz hm h)
    subst h
    clear hfz
    go_enter Try.func6, Try.ntmps6
    go_wp2_with (first
      | (go_at_call 31; (with_reducible refine (HF.out _).mono ?_); rintro e w1 ⟨rfl, hb1⟩; obtain ⟨hc1, hf1⟩ := bcell hb1)
      | (go_at_call 32; (with_reducible refine (HR.out _).mono ?_); rintro e w2 ⟨rfl, rfl⟩)
      | (go_at_call 33; (with_reducible refine (OF.out _).mono ?_); rintro e w3 ⟨rfl, hb3⟩; obtain ⟨hc3, hf3⟩ := bcell hb3; have hzhb3_0 : w1.heap.size < w3.heap.size := (by have h_ := bsz hb3; (try simp at h_); omega))
      | (go_at_call 34; (with_reducible refine (WD.out _).mono ?_); rintro e w4 ⟨rfl, hb4⟩; obtain ⟨hc4, hf4⟩ := bcell hb4)
      | (go_at_call 30; (with_reducible refine (awake9 _).mono ?_); rintro e w5 ⟨rfl, hb5⟩; obtain ⟨hc5, hf5⟩ := bcell hb5))
    go_ret
    have B_hb1 : Below w.heap.size w w1 := bthen hb1 (by (repeat' (first | (with_reducible exact Below.refl _ _) | (with_reducible assumption) | (with_reducible refine bdrew ?_ _) | (with_reducible refine Below.alloc ?_ ?_ _) | (with_reducible refine Below.drew ?_) | (with_reducible refine Below.setCell ?_ ?_ _) | go_size))) (by go_size)
    have S_hb1 : w.heap.size ≤ w1.heap.size := B_hb1.size
    have B_hb3 : Below w.heap.size w w3 := bthen hb3 (by (repeat' (first | (with_reducible exact Below.refl _ _) | (with_reducible assumption) | (with_reducible refine bdrew ?_ _) | (with_reducible refine Below.alloc ?_ ?_ _) | (with_reducible refine Below.drew ?_) | (with_reducible refine Below.setCell ?_ ?_ _) | go_size))) (by go_size)
    have S_hb3 : w.heap.size ≤ w3.heap.size := B_hb3.size
    have B_hb4 : Below w.heap.size w w4 := bthen hb4 (by (repeat' (first | (with_reducible exact Below.refl _ _) | (with_reducible assumption) | (with_reducible refine bdrew ?_ _) | (with_reducible refine Below.alloc ?_ ?_ _) | (with_reducible refine Below.drew ?_) | (with_reducible refine Below.setCell ?_ ?_ _) | go_size))) (by go_size)
    have S_hb4 : w.heap.size ≤ w4.heap.size := B_hb4.size
    have B_hb5 : Below w.heap.size w w5 := bthen hb5 (by (repeat' (first | (with_reducible exact Below.refl _ _) | (with_reducible assumption) | (with_reducible refine bdrew ?_ _) | (with_reducible refine Below.alloc ?_ ?_ _) | (with_reducible refine Below.drew ?_) | (with_reducible refine Below.setCell ?_ ?_ _) | go_size))) (by go_size)
    have S_hb5 : w.heap.size ≤ w5.heap.size := B_hb5.size
    exact ⟨rfl, B_hb5⟩
  · have hne : (f != 0) = true := by simpa using h
    clear h hfz
    go_enter Try.func6, Try.ntmps6
    go_wp2_with (first
      | (go_at_call 31; (with_reducible refine (HF.out _).mono ?_); rintro e w1 ⟨rfl, hb1⟩; obtain ⟨hc1, hf1⟩ := bcell hb1)
      | (go_at_call 32; (with_reducible refine (HR.out _).mono ?_); rintro e w2 ⟨rfl, rfl⟩)
      | (go_at_call 33; (with_reducible refine (OF.out _).mono ?_); rintro e w3 ⟨rfl, hb3⟩; obtain ⟨hc3, hf3⟩ := bcell hb3; have hzhb3_0 : w1.heap.size < w3.heap.size := (by have h_ := bsz hb3; (try simp at h_); omega))
      | (go_at_call 34; (with_reducible refine (WD.out _).mono ?_); rintro e w4 ⟨rfl, hb4⟩; obtain ⟨hc4, hf4⟩ := bcell hb4)
      | (go_at_call 30; (with_reducible refine (awake9 _).mono ?_); rintro e w5 ⟨rfl, hb5⟩; obtain ⟨hc5, hf5⟩ := bcell hb5))
    go_ret
    have B_hb1 : Below w.heap.size w w1 := bthen hb1 (by (repeat' (first | (with_reducible exact Below.refl _ _) | (with_reducible assumption) | (with_reducible refine bdrew ?_ _) | (with_reducible refine Below.alloc ?_ ?_ _) | (with_reducible refine Below.drew ?_) | (with_reducible refine Below.setCell ?_ ?_ _) | go_size))) (by go_size)
    have S_hb1 : w.heap.size ≤ w1.heap.size := B_hb1.size
    have B_hb3 : Below w.heap.size w w3 := bthen hb3 (by (repeat' (first | (with_reducible exact Below.refl _ _) | (with_reducible assumption) | (with_reducible refine bdrew ?_ _) | (with_reducible refine Below.alloc ?_ ?_ _) | (with_reducible refine Below.drew ?_) | (with_reducible refine Below.setCell ?_ ?_ _) | go_size))) (by go_size)
    have S_hb3 : w.heap.size ≤ w3.heap.size := B_hb3.size
    have B_hb4 : Below w.heap.size w w4 := bthen hb4 (by (repeat' (first | (with_reducible exact Below.refl _ _) | (with_reducible assumption) | (with_reducible refine bdrew ?_ _) | (with_reducible refine Below.alloc ?_ ?_ _) | (with_reducible refine Below.drew ?_) | (with_reducible refine Below.setCell ?_ ?_ _) | go_size))) (by go_size)
    have S_hb4 : w.heap.size ≤ w4.heap.size := B_hb4.size
    have B_hb5 : Below w.heap.size w w5 := bthen hb5 (by (repeat' (first | (with_reducible exact Below.refl _ _) | (with_reducible assumption) | (with_reducible refine bdrew ?_ _) | (with_reducible refine Below.alloc ?_ ?_ _) | (with_reducible refine Below.drew ?_) | (with_reducible refine Below.setCell ?_ ?_ _) | go_size))) (by go_size)
    have S_hb5 : w.heap.size ≤ w5.heap.size := B_hb5.size
    exact ⟨rfl, B_hb5⟩
theorem finds_good (m width word : Int) (w : World) (he : (findI m width).2.2 = 0) (hm : m ≠ 0) : Calls Try.prog 6 #[.int .i64 m, .int .i64 width, .int .i64 word] w (True9 w) := by
  obtain ⟨g1, g2, g3, _, _⟩ := find_same m width
  obtain ⟨s, b, e1, e2, hs, hz⟩ := find_good m width he hm
  have hp := hs.pos
  have g3' := g3 (by omega)
  obtain ⟨a1, _⟩ := shape_of_acc hs hz word
  have hw := shape_word hs hz
  have HF := Lib.hid (fun w0 => (find_any m width w0).mono (R' := fun e w' => e = .returned (.tuple #[.agg #[.int .i64 s, .int .i64 b], .int .i64 0]) ∧ Below w0.heap.size w0 w') fun e w' hh => by obtain ⟨h1, h2⟩ := hh; rw [e1, e2, he] at h1; exact ⟨h1, h2⟩)
  have HR := Lib.hid (fun w0 => (rfind_any m width w0).mono (R' := fun e w' => e = .returned (.tuple #[.int .i64 s, .int .i64 b, .int .i64 0]) ∧ w0 = w') fun e w' hh => by obtain ⟨h1, h2⟩ := hh; rw [← g1, ← g2, ← g3', e1, e2, he] at h1; exact ⟨h1, h2⟩)
  have OF := Lib.hid (fun w0 => (of_yes s b word w0 (shape_right hs)).mono (R' := fun e w' => e = .returned (.int .i64 (ofI word m)) ∧ Below w0.heap.size w0 w') fun e w' hh => by rw [a1]; simpa using hh)
  have WD := Lib.hid (fun w0 => (mword_any s b w0).mono (R' := fun e w' => e = .returned (.int .i64 m) ∧ Below w0.heap.size w0 w') fun e w' hh => by rw [hw] at hh; exact hh)
  have hm' : (m == 0) = false := by simpa using hm
  have hb1 : (0 : Int) < b := by omega
  have hb2 : ((b : Int) == 0) = false := by simp; omega
  clear g1 g2 g3 e1 e2 hs hz hp g3' a1 hw hm he
  go_enter Try.func6, Try.ntmps6
  go_wp2_with (first
    | (go_at_call 31; (with_reducible refine (HF.out _).mono ?_); rintro e w1 ⟨rfl, hb1⟩; obtain ⟨hc1, hf1⟩ := bcell hb1)
    | (go_at_call 32; (with_reducible refine (HR.out _).mono ?_); rintro e w2 ⟨rfl, rfl⟩)
    | (go_at_call 33; (with_reducible refine (OF.out _).mono ?_); rintro e w3 ⟨rfl, hb3⟩; obtain ⟨hc3, hf3⟩ := bcell hb3; have hzhb3_0 : w1.heap.size < w3.heap.size := (by have h_ := bsz hb3; (try simp at h_); omega))
    | (go_at_call 35; (with_reducible refine (rof_any word m _).mono ?_); rintro e w2 ⟨rfl, rfl⟩)
    | (go_at_call 34; (with_reducible refine (WD.out _).mono ?_); rintro e w4 ⟨rfl, hb4⟩; obtain ⟨hc4, hf4⟩ := bcell hb4)
    | (go_at_call 30; (with_reducible refine (awake9 _).mono ?_); rintro e w5 ⟨rfl, hb5⟩; obtain ⟨hc5, hf5⟩ := bcell hb5))
  go_ret
  have B_hb1 : Below w.heap.size w w1 := bthen hb1 (by (repeat' (first | (with_reducible exact Below.refl _ _) | (with_reducible assumption) | (with_reducible refine bdrew ?_ _) | (with_reducible refine Below.alloc ?_ ?_ _) | (with_reducible refine Below.drew ?_) | (with_reducible refine Below.setCell ?_ ?_ _) | go_size))) (by go_size)
  have S_hb1 : w.heap.size ≤ w1.heap.size := B_hb1.size
  have B_hb3 : Below w.heap.size w w3 := bthen hb3 (by (repeat' (first | (with_reducible exact Below.refl _ _) | (with_reducible assumption) | (with_reducible refine bdrew ?_ _) | (with_reducible refine Below.alloc ?_ ?_ _) | (with_reducible refine Below.drew ?_) | (with_reducible refine Below.setCell ?_ ?_ _) | go_size))) (by go_size)
  have S_hb3 : w.heap.size ≤ w3.heap.size := B_hb3.size
  have B_hb4 : Below w.heap.size w w4 := bthen hb4 (by (repeat' (first | (with_reducible exact Below.refl _ _) | (with_reducible assumption) | (with_reducible refine bdrew ?_ _) | (with_reducible refine Below.alloc ?_ ?_ _) | (with_reducible refine Below.drew ?_) | (with_reducible refine Below.setCell ?_ ?_ _) | go_size))) (by go_size)
  have S_hb4 : w.heap.size ≤ w4.heap.size := B_hb4.size
  have B_hb5 : Below w.heap.size w w5 := bthen hb5 (by (repeat' (first | (with_reducible exact Below.refl _ _) | (with_reducible assumption) | (with_reducible refine bdrew ?_ _) | (with_reducible refine Below.alloc ?_ ?_ _) | (with_reducible refine Below.drew ?_) | (with_reducible refine Below.setCell ?_ ?_ _) | go_size))) (by go_size)
  have S_hb5 : w.heap.size ≤ w5.heap.size := B_hb5.size
  exact ⟨rfl, B_hb5⟩
theorem finds_walk (m width word : Int) (_ : (Lit.int .i64 m).wf = true) (_ : (Lit.int .i64 width).wf = true) (_ : (Lit.int .i64 word).wf = true) (w : World) :
    Calls Try.prog 6 #[.int .i64 m, .int .i64 width, .int .i64 word] w fun e w' => e = .returned (.bool true) ∧ Below w.heap.size w w' := by
  by_cases h : (findI m width).2.2 ≠ 0 ∨ m = 0
  · exact finds_bad m width word w h
  · exact finds_good m width word w (Decidable.not_not.1 (fun h' => h (Or.inl h'))) (fun h' => h (Or.inr h'))
end Go.Proofs.Ytobpocdpnkicnaa

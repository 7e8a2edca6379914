/- The two Fours of layer 9. -/
import Derived.Test.YtlhcjnjajkfahaaM6
namespace Go.Proofs.Ytlhcjnjajkfahaa
open Go.RowKit
/-- The first of four that is wrong. -/
def scan4 (f : Nat → Int) : Int × Int := if f 0 ≠ 0 then (0, f 0) else if f 1 ≠ 0 then (1, f 1) else if f 2 ≠ 0 then (2, f 2) else if f 3 ≠ 0 then (3, f 3) else (0, 0)
theorem scan4_at (f : Nat → Int) (k : Nat) (hk : k < 4) (h : ∀ j, j < k → f j = 0) (h2 : f k ≠ 0) : scan4 f = ((k : Int), f k) := by
  unfold scan4
  rcases (show k = 0 ∨ k = 1 ∨ k = 2 ∨ k = 3 by omega) with rfl | rfl | rfl | rfl
  · rw [if_pos h2]; rfl
  · rw [if_neg (by simp [h 0]), if_pos h2]; rfl
  · rw [if_neg (by simp [h 0]), if_neg (by simp [h 1]), if_pos h2]; rfl
  · rw [if_neg (by simp [h 0]), if_neg (by simp [h 1]), if_neg (by simp [h 2]), if_pos h2]; rfl
theorem scan4_none (f : Nat → Int) (h : ∀ j, j < 4 → f j = 0) : scan4 f = (0, 0) := by
  unfold scan4
  rw [if_neg (by simp [h 0]), if_neg (by simp [h 1]), if_neg (by simp [h 2]), if_neg (by simp [h 3])]
/-- Has the k-th of some words a bit in common with one of the first j? -/
def anyBoth (l : Nat → Int) (k : Nat) : Nat → Bool
  | 0 => false
  | j + 1 => anyBoth l k j || bothF (l k) (l j) 32
theorem anyBoth_mono (l : Nat → Int) (k j i : Nat) (h : anyBoth l k j = true) (hj : j ≤ i) : anyBoth l k i = true := by
  induction i with
  | zero => obtain rfl : j = 0 := by omega
            exact h
  | succ i ih => by_cases e : j = i + 1
                 · subst e; exact h
                 · unfold anyBoth; rw [ih (by omega)]; rfl
theorem anyBoth_succ (l : Nat → Int) (k j : Nat) : anyBoth l k (j + 1) = (anyBoth l k j || bothF (l k) (l j) 32) := rfl
def rstep (l : Nat → Int) (width : Int) (k : Nat) : Int := if (rfindI (l k) width).2.2 ≠ 0 then (rfindI (l k) width).2.2 else if anyBoth l k k = true then 11 else 0
def RFour (w : World) (r : Int × Int) (e : Ending) (w' : World) : Prop := e = .returned (.tuple #[.int .i64 r.1, .int .i64 r.2]) ∧ Below w.heap.size w w'
set_option maxHeartbeats 1000000 in
theorem rfour_any (l : Nat → Int) (width : Int) (B : Nat) (w : World) (hB : B < w.heap.size) (hc : ∀ i, i < 4 → w.cell? ⟨B, i, none⟩ = some (.int .i64 (l i))) :
    Calls Try.prog 83 #[.slice (some ⟨B, 0, none⟩) 4 4, .int .i64 width] w (RFour w (scan4 (rstep l width))) := by
  go_enter Try.func83, Try.ntmps83
  go_wp2
  go_loopw [6] (fun i wr => ∃ k : Nat, k ≤ 4 ∧ i = .int .i64 k ∧ (∀ j, j < k → rstep l width j = 0) ∧ Below w.heap.size w wr) (fun i _ => 4 - (intOf i).toNat)
  case atStart => exact ⟨0, by omega, rfl, fun j hj => by omega, Below.refl _ _⟩
  case round =>
    obtain ⟨k, hk, rfl, hz, hbl⟩ := hrel
    have Z := Lib.hid hz
    clear hz
    have C := Lib.hid (fun i hi => ((bcell hbl).1 B i hB).trans (hc i hi))
    clear hc
    by_cases hlt : k < 4
    · have hck := C.out k hlt
      by_cases he : (rfindI (l k) width).2.2 = 0
      · have hd : ((rfindI (l k) width).2.2 != 0) = false := by rw [he]; rfl
        have He := Lib.hid he
        clear he
        go_wp2_with (go_at_call 109; (with_reducible refine (rfind_any (l k) width _).mono ?_); rintro e w1 ⟨rfl, rfl⟩)
        obtain ⟨wo, rfl⟩ : ∃ wo : World, wo = wr := ⟨_, rfl⟩
        clear hck
        go_loopw [10] (fun i wr => ∃ j : Nat, j ≤ k ∧ i = .int .i64 j ∧ anyBoth l k j = false ∧ Below w.heap.size w wr) (fun i _ => k - (intOf i).toNat)
        case atStart => exact ⟨0, by omega, rfl, rfl, hbl⟩
        case round =>
          obtain ⟨j, hj, rfl, ha, hbl⟩ := hrel
          rename_i hbl0
          have C2 := Lib.hid (fun i hi => ((bcell hbl).1 B i hB).trans (((bcell hbl0).1 B i hB).symm.trans (C.out i hi)))
          have A := Lib.hid ha
          clear ha hbl0
          by_cases hjl : j < k
          · have hck := C2.out k hlt
            have hcj := C2.out j (by omega)
            have hj4 : (j : Int) < 4 := by omega
            have hj5 : (k : Int) < 4 := by omega
            have A2 := Lib.hid (anyBoth_succ l k j)
            go_wp2
            go_quiet ((go_at_call 110; exact Calls.quiet_of_same ((both_any (l k) (l j) _).mono (fun e w' h => ⟨h.1, h.2.symm⟩))))
            go_wp2
            · have hb : bothF (l k) (l j) 32 = true := by assumption
              have ht : anyBoth l k k = true := anyBoth_mono l k (j + 1) k (by rw [A2.out, A.out, hb]; rfl) (by omega)
              have hs : rstep l width k = 11 := by unfold rstep; rw [if_neg (by simp [He.out]), if_pos ht]
              have hsc := scan4_at _ k hlt Z.out (by rw [hs]; decide)
              have S := Lib.hid (hsc.trans (by rw [hs]))
              clear hsc hs ht
              go_ret2
              exact ⟨by rw [S.out]; rfl, bdrew hbl _⟩
            · have hb : bothF (l k) (l j) 32 = false := by assumption
              go_roundw
              case rel => exact ⟨j + 1, by omega, by go_num, by rw [A2.out, A.out, hb]; rfl, bdrew hbl _⟩
              case measure => simp [intOf]; omega
          · have ej : j = k := by omega
            have A3 : Hid (anyBoth l k k = false) := Lib.hid (by rw [← ej]; rw [ej]; have := A.out; rwa [ej] at this)
            clear ej
            go_wp2
            go_roundw
            case rel =>
              refine ⟨k + 1, by omega, by go_num, fun i hi => ?_, hbl⟩
              by_cases e : i = k
              · rw [e]; unfold rstep; rw [if_neg (by simp [He.out]), if_neg (by rw [A3.out]; decide)]
              · exact Z.out i (by omega)
            case measure => simp [intOf]; omega
      · have hd : ((rfindI (l k) width).2.2 != 0) = true := by simpa using he
        have hs : rstep l width k = (rfindI (l k) width).2.2 := by unfold rstep; rw [if_pos he]
        have hsc := scan4_at _ k hlt Z.out (by rw [hs]; exact he)
        have S := Lib.hid (hsc.trans (by rw [hs]))
        clear hsc hs he
        go_wp2_with (go_at_call 109; (with_reducible refine (rfind_any (l k) width _).mono ?_); rintro e w1 ⟨rfl, rfl⟩)
        go_ret2
        exact ⟨by rw [S.out]; rfl, hbl⟩
    · have S := Lib.hid (scan4_none _ (fun j hj => Z.out j (by omega)))
      go_wp2
      go_ret2
      exact ⟨by rw [S.out]; rfl, hbl⟩
end Go.Proofs.Ytlhcjnjajkfahaa

/- The law SrcPlays: one call of any kind. -/
import Derived.Test.YtobpocdpnkicnaaP5
import Derived.Test.YtobpocdpnkicnaaP6
import Derived.Test.YtobpocdpnkicnaaP8
import Derived.Test.YtobpocdpnkicnaaP9
namespace Go.Proofs.Ytobpocdpnkicnaa
open Go.RowKit
set_option linter.unusedVariables false
/-- What one call comes to: a source, its state, its ledger. -/
def AnyP (w : World) (X : Nat) (x : Sr) (e : Ending) (w' : World) : Prop := ∃ Y y m, (Y = X ∨ w.heap.size ≤ Y) ∧ m.inv ∧ y.L = x.L ∧ OneP w X x Y y m e w'
theorem any_of {w : World} {X : Nat} {x y : Sr} {m : Led} {e : Ending} {w' : World} (h : OneP w X x X y m e w') (hm : m.inv) (hL : y.L = x.L) : AnyP w X x e w' := ⟨X, y, m, Or.inl rfl, hm, hL, h⟩
theorem next_inv {x : Sr} {l : Led} (n : Int) (h : l.inv) : (x.next l n).1.2.inv := by
  unfold Sr.next; split <;> exact Led.work_inv h 1
theorem one_any (X : Nat) (x : Sr) (l : Led) (k N M : Int) (w : World) (h : Pair w X x l) (hi : l.inv) :
    Calls Try.prog 65 #[.pointer (some ⟨X, 0, none⟩), .agg (St x l).toArray, .agg #[.int .i64 k, .int .i64 N, .int .i64 M]] w (AnyP w X x) := by
  by_cases h1 : k < 1
  · exact (one_low X x l k N M w h h1).mono fun e w' hh => any_of hh hi rfl
  by_cases h11 : 11 < k
  · exact (one_high X x l k N M w h h11).mono fun e w' hh => any_of hh hi rfl
  by_cases h6 : k ≤ 6
  · exact (one_reads X x l k N M w h hi (by omega) h6).mono fun e w' hh => any_of hh (next_inv _ hi) (next_L _ _ _)
  rcases (show k = 7 ∨ k = 8 ∨ k = 9 ∨ k = 10 ∨ k = 11 by omega) with rfl | rfl | rfl | rfl | rfl
  · exact (one_take X x l N M w h hi).mono fun e w' hh => any_of hh (next_inv _ hi) (next_L _ _ _)
  · cases hok : (x.next l 1).2.2
    · exact (one_peek_no X x l N M w h hi hok).mono fun e w' hh => any_of hh (next_inv _ hi) rfl
    · exact (one_peek_yes X x l N M w h hi hok).mono fun e w' hh => any_of hh (next_inv _ hi) rfl
  · exact (one_skip X x l N M w h hi).mono fun e w' hh => any_of hh (next_inv _ hi) (next_L _ _ _)
  · by_cases a : N < x.b
    · exact (one_seek_a X x l N M w h a).mono fun e w' hh => any_of hh hi rfl
    · by_cases b : (x.e : Int) < N
      · exact (one_seek_b X x l N M w h ⟨a, b⟩).mono fun e w' hh => any_of hh hi rfl
      · exact (one_seek_yes X x l N M w h (by omega) (by omega)).mono fun e w' hh => any_of hh hi rfl
  · by_cases a : N < x.b
    · exact (one_win_a X x l N M w h a).mono fun e w' hh => any_of hh hi rfl
    by_cases b : (x.e : Int) < N
    · exact (one_win_b X x l N M w h ⟨a, b⟩).mono fun e w' hh => any_of hh hi rfl
    by_cases c : M < 0
    · exact (one_win_c X x l N M w h ⟨a, b, c⟩).mono fun e w' hh => any_of hh hi rfl
    by_cases d : (x.e : Int) - N < M
    · exact (one_win_d X x l N M w h ⟨a, b, by omega, d⟩).mono fun e w' hh => any_of hh hi rfl
    · obtain ⟨A, rfl⟩ := Int.eq_ofNat_of_zero_le (show 0 ≤ N by omega)
      obtain ⟨B, rfl⟩ := Int.eq_ofNat_of_zero_le (show 0 ≤ M by omega)
      exact (one_win_yes X x l A B w h (by unfold Sr.winB; omega)).mono fun e w' ⟨Y, hY, hh⟩ => ⟨Y, ⟨x.L, x.s, A, A + B, A⟩, l, Or.inr hY, hi, rfl, hh⟩
theorem cut_region {P : Program} {id : Nat} {ops : Array Oper} {b : Bool} {Q : Exit → Act → World → Prop} {a : Act} {w : World} (R : Act → Act → World → Prop)
    (h1 : (Code.region id ops b).wp P (fun e a' w' => e = .normal ∧ R a a' w') a w) (h2 : ∀ a' w', R a a' w' → Q .normal a' w') : (Code.region id ops b).wp P Q a w :=
  Code.wp_mono (fun e a' w' ⟨he, hr⟩ => by subst he; exact h2 a' w' hr) h1
end Go.Proofs.Ytobpocdpnkicnaa

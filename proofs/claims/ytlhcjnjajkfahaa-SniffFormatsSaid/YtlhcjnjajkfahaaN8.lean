/- The reference of layer 30: Has, of any format. -/
import Derived.Test.YtlhcjnjajkfahaaN7
namespace Go.Proofs.Ytlhcjnjajkfahaa
open Go.RowKit
set_option linter.unusedVariables false
theorem rhas_any (s : ByteArray) (f : Int) (w : World) (hs : s.size ≤ 9223372036854775807) : Calls Try.prog 25 #[.string s, .int .i64 f] w (Has30 s f w) := by
  obtain ⟨a1, a2, a5, a6, a8⟩ := rhas_12 s w hs
  by_cases h1 : f = 1
  · subst h1; exact a1
  by_cases h2 : f = 2
  · subst h2; exact a2
  by_cases h3 : f = 3
  · subst h3; exact (rhas_3 s w).mono fun e w' hh => ⟨hh.1, by rw [hh.2]; exact Below.refl _ _⟩
  by_cases h4 : f = 4
  · subst h4; exact (rhas_4 s w).mono fun e w' hh => ⟨hh.1, by rw [hh.2]; exact Below.refl _ _⟩
  by_cases h5 : f = 5
  · subst h5; exact a5
  by_cases h6 : f = 6
  · subst h6; exact a6
  by_cases h7 : f = 7
  · subst h7; exact (rhas_7 s w).mono fun e w' hh => ⟨hh.1, by rw [hh.2]; exact Below.refl _ _⟩
  by_cases h8 : f = 8
  · subst h8; exact a8
  have E : hasB s f = false := by unfold hasB; rw [if_neg h1, if_neg h2, if_neg h3, if_neg h4, if_neg h5, if_neg h6, if_neg h7, if_neg h8]
  exact (rhas_other s f w h1 h2 h3 h4 h5 h6 h7 h8).mono fun e w' hh => ⟨by rw [E]; exact hh.1, by rw [hh.2]; exact Below.refl _ _⟩
end Go.Proofs.Ytlhcjnjajkfahaa

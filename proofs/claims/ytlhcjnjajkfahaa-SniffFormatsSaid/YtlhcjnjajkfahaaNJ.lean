/- Names of formats: the document's and the program's. Plain. -/
import Derived.Test.YtlhcjnjajkfahaaNI
namespace Go.Proofs.Ytlhcjnjajkfahaa
open Go.RowKit
set_option linter.unusedVariables false
set_option linter.unusedSimpArgs false
theorem dat_ne {a : Array UInt8} {e : ByteArray} (h : ¬ (⟨a⟩ : ByteArray) = e) : ¬ e.data.toList = a.toList := fun g => h (ByteArray.ext (Array.ext' g.symm))
set_option maxRecDepth 100000 in
theorem names_eq (e : ByteArray) : nmFrom nmL fmL e = ordFrom ordL e := by
  by_cases h1 : (⟨#[98, 109, 112]⟩ : ByteArray) = e
  · subst h1; decide +kernel
  by_cases h2 : (⟨#[100, 105, 98]⟩ : ByteArray) = e
  · subst h2; decide +kernel
  by_cases h3 : (⟨#[116, 103, 97]⟩ : ByteArray) = e
  · subst h3; decide +kernel
  by_cases h4 : (⟨#[112, 112, 109]⟩ : ByteArray) = e
  · subst h4; decide +kernel
  by_cases h5 : (⟨#[112, 98, 109]⟩ : ByteArray) = e
  · subst h5; decide +kernel
  by_cases h6 : (⟨#[112, 103, 109]⟩ : ByteArray) = e
  · subst h6; decide +kernel
  by_cases h7 : (⟨#[112, 110, 109]⟩ : ByteArray) = e
  · subst h7; decide +kernel
  by_cases h8 : (⟨#[105, 99, 111]⟩ : ByteArray) = e
  · subst h8; decide +kernel
  by_cases h9 : (⟨#[99, 117, 114]⟩ : ByteArray) = e
  · subst h9; decide +kernel
  by_cases h10 : (⟨#[113, 111, 105]⟩ : ByteArray) = e
  · subst h10; decide +kernel
  by_cases h11 : (⟨#[102, 102]⟩ : ByteArray) = e
  · subst h11; decide +kernel
  by_cases h12 : (⟨#[112, 99, 120]⟩ : ByteArray) = e
  · subst h12; decide +kernel
  by_cases h13 : (⟨#[114, 97, 115]⟩ : ByteArray) = e
  · subst h13; decide +kernel
  by_cases h14 : (⟨#[115, 117, 110]⟩ : ByteArray) = e
  · subst h14; decide +kernel
  have n1 : ¬ e.data.toList = [98, 109, 112] := dat_ne h1
  have n2 : ¬ e.data.toList = [100, 105, 98] := dat_ne h2
  have n3 : ¬ e.data.toList = [116, 103, 97] := dat_ne h3
  have n4 : ¬ e.data.toList = [112, 112, 109] := dat_ne h4
  have n5 : ¬ e.data.toList = [112, 98, 109] := dat_ne h5
  have n6 : ¬ e.data.toList = [112, 103, 109] := dat_ne h6
  have n7 : ¬ e.data.toList = [112, 110, 109] := dat_ne h7
  have n8 : ¬ e.data.toList = [105, 99, 111] := dat_ne h8
  have n9 : ¬ e.data.toList = [99, 117, 114] := dat_ne h9
  have n10 : ¬ e.data.toList = [113, 111, 105] := dat_ne h10
  have n11 : ¬ e.data.toList = [102, 102] := dat_ne h11
  have n12 : ¬ e.data.toList = [112, 99, 120] := dat_ne h12
  have n13 : ¬ e.data.toList = [114, 97, 115] := dat_ne h13
  have n14 : ¬ e.data.toList = [115, 117, 110] := dat_ne h14
  unfold nmL fmL ordL
  simp only [nmFrom, ordFrom, h1, h2, h3, h4, h5, h6, h7, h8, h9, h10, h11, h12, h13, h14, if_false]
  rw [show extS 1 = ⟨#[98, 109, 112]⟩ from rfl]
  rw [show extS 2 = ⟨#[116, 103, 97]⟩ from rfl]
  rw [show extS 3 = ⟨#[112, 112, 109]⟩ from rfl]
  rw [show extS 4 = ⟨#[105, 99, 111]⟩ from rfl]
  rw [show extS 5 = ⟨#[113, 111, 105]⟩ from rfl]
  rw [show extS 6 = ⟨#[102, 102]⟩ from rfl]
  rw [show extS 7 = ⟨#[112, 99, 120]⟩ from rfl]
  rw [show extS 8 = ⟨#[114, 97, 115]⟩ from rfl]
  simp only [h1, h2, h3, h4, h5, h6, h7, h8, h9, h10, h11, h12, h13, h14, if_false, othF, n1, n2, n3, n4, n5, n6, n7, n8, n9, n10, n11, n12, n13, n14]
theorem rnamed_eq (s : ByteArray) : rnamedB s = namedB s := by
  unfold rnamedB namedB
  rw [names_eq]
set_option maxRecDepth 100000 in
theorem named_ext (f : Int) (h : 1 ≤ f ∧ f ≤ 8) : namedB ((⟨#[120, 46]⟩ : ByteArray) ++ extS f) = f ∧ extS f ≠ ByteArray.empty ∧ (extS f).size ≤ 3 := by
  rcases (show f = 1 ∨ f = 2 ∨ f = 3 ∨ f = 4 ∨ f = 5 ∨ f = 6 ∨ f = 7 ∨ f = 8 by omega) with rfl | rfl | rfl | rfl | rfl | rfl | rfl | rfl <;> decide +kernel
theorem ext_none (f : Int) (h : ¬ (1 ≤ f ∧ f ≤ 8)) : extS f = ByteArray.empty := by
  unfold extS
  rw [if_neg (by omega), if_neg (by omega), if_neg (by omega), if_neg (by omega), if_neg (by omega), if_neg (by omega), if_neg (by omega), if_neg (by omega)]; rfl
end Go.Proofs.Ytlhcjnjajkfahaa

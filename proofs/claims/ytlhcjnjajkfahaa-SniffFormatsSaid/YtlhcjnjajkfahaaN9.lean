/- sniff: the order of formats, extensions, walked. -/
import Derived.Test.YtlhcjnjajkfahaaN0
namespace Go.Proofs.Ytlhcjnjajkfahaa
open Go.RowKit
set_option linter.unusedVariables false
set_option linter.unusedSimpArgs false
def extS (f : Int) : ByteArray :=
  if f = 1 then ⟨#[98, 109, 112]⟩ else if f = 2 then ⟨#[116, 103, 97]⟩ else if f = 3 then ⟨#[112, 112, 109]⟩ else if f = 4 then ⟨#[105, 99, 111]⟩ else if f = 5 then ⟨#[113, 111, 105]⟩ else
  if f = 6 then ⟨#[102, 102]⟩ else if f = 7 then ⟨#[112, 99, 120]⟩ else if f = 8 then ⟨#[114, 97, 115]⟩ else ⟨#[]⟩
set_option maxRecDepth 100000 in
theorem ext_any (f : Int) (w : World) : Calls Try.prog 28 #[.int .i64 f] w fun e w' => e = .returned (.string (extS f)) ∧ w' = w := by
  go_enter Try.func28, Try.ntmps28
  by_cases h1 : f = 1
  · subst h1; go_wp2; go_ret; exact ⟨rfl, rfl⟩
  by_cases h2 : f = 2
  · subst h2; go_wp2; go_ret; exact ⟨rfl, rfl⟩
  by_cases h3 : f = 3
  · subst h3; go_wp2; go_ret; exact ⟨rfl, rfl⟩
  by_cases h4 : f = 4
  · subst h4; go_wp2; go_ret; exact ⟨rfl, rfl⟩
  by_cases h5 : f = 5
  · subst h5; go_wp2; go_ret; exact ⟨rfl, rfl⟩
  by_cases h6 : f = 6
  · subst h6; go_wp2; go_ret; exact ⟨rfl, rfl⟩
  by_cases h7 : f = 7
  · subst h7; go_wp2; go_ret; exact ⟨rfl, rfl⟩
  by_cases h8 : f = 8
  · subst h8; go_wp2; go_ret; exact ⟨rfl, rfl⟩
  have e1 : (f == 1) = false := by simpa using h1
  have e2 : (f == 2) = false := by simpa using h2
  have e3 : (f == 3) = false := by simpa using h3
  have e4 : (f == 4) = false := by simpa using h4
  have e5 : (f == 5) = false := by simpa using h5
  have e6 : (f == 6) = false := by simpa using h6
  have e7 : (f == 7) = false := by simpa using h7
  have e8 : (f == 8) = false := by simpa using h8
  have E := Lib.hid (show extS f = ⟨#[]⟩ by unfold extS; rw [if_neg h1, if_neg h2, if_neg h3, if_neg h4, if_neg h5, if_neg h6, if_neg h7, if_neg h8])
  clear h1 h2 h3 h4 h5 h6 h7 h8
  go_wp2
  go_ret
  exact ⟨by rw [E.out]; rfl, rfl⟩
end Go.Proofs.Ytlhcjnjajkfahaa

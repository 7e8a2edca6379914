/- sniff.Has, walked. -/
import Derived.Test.YtlhcjnjajkfahaaN2
import Derived.Test.YtlhcjnjajkfahaaI0
namespace Go.Proofs.Ytlhcjnjajkfahaa
open Go.RowKit
set_option linter.unusedVariables false
set_option linter.unusedSimpArgs false
def hasB (s : ByteArray) (f : Int) : Bool :=
  if f = 1 then prefB s ⟨#[66, 77]⟩ else if f = 2 then isTga s else if f = 3 then isPnm s else if f = 4 then isIco s else if f = 5 then prefB s ⟨#[113, 111, 105, 102]⟩ else
  if f = 6 then prefB s ⟨#[102, 97, 114, 98, 102, 101, 108, 100]⟩ else if f = 7 then isPcx s else if f = 8 then prefB s ⟨#[89, 166, 106, 149]⟩ else false
set_option maxRecDepth 100000 in
theorem has_any (s : ByteArray) (f : Int) (w : World) (hs : s.size ≤ 9223372036854775807) : Calls Try.prog 24 #[.string s, .int .i64 f] w fun e w' => e = .returned (.bool (hasB s f)) ∧ Below w.heap.size w w' := by
  have H1 := Lib.hid (fun p w0 => prefix_any s p w0)
  have H2 := Lib.hid (fun w0 => tis_any s w0 hs)
  have H3 := Lib.hid (fun w0 => pnm_any s w0)
  have H4 := Lib.hid (fun w0 => iis_any s w0 hs)
  have H5 := Lib.hid (fun w0 => qoi_any s w0)
  have H6 := Lib.hid (fun w0 => ff_any s w0)
  have H7 := Lib.hid (fun w0 => pcx_any s w0)
  have H8 := Lib.hid (fun w0 => sun_any s w0)
  go_enter Try.func24, Try.ntmps24
  by_cases h1 : f = 1
  · subst h1
    go_wp2_with ((go_at_call 53; (with_reducible refine (H1.out _ _).mono ?_); rintro e w1 ⟨rfl, rfl⟩))
    go_ret
    exact ⟨rfl, Below.refl _ _⟩
  by_cases h2 : f = 2
  · subst h2
    go_wp2_with ((go_at_call 60; (with_reducible refine (H2.out _).mono ?_); rintro e w1 ⟨rfl, hb⟩))
    go_ret
    exact ⟨rfl, hb⟩
  by_cases h3 : f = 3
  · subst h3
    go_wp2_with ((go_at_call 54; (with_reducible refine (H3.out _).mono ?_); rintro e w1 ⟨rfl, rfl⟩))
    go_ret
    exact ⟨rfl, Below.refl _ _⟩
  by_cases h4 : f = 4
  · subst h4
    go_wp2_with ((go_at_call 59; (with_reducible refine (H4.out _).mono ?_); rintro e w1 ⟨rfl, rfl⟩))
    go_ret
    exact ⟨rfl, Below.refl _ _⟩
  by_cases h5 : f = 5
  · subst h5
    go_wp2_with ((go_at_call 55; (with_reducible refine (H5.out _).mono ?_); rintro e w1 ⟨rfl, rfl⟩))
    go_ret
    exact ⟨rfl, Below.refl _ _⟩
  by_cases h6 : f = 6
  · subst h6
    go_wp2_with ((go_at_call 56; (with_reducible refine (H6.out _).mono ?_); rintro e w1 ⟨rfl, rfl⟩))
    go_ret
    exact ⟨rfl, Below.refl _ _⟩
  by_cases h7 : f = 7
  · subst h7
    go_wp2_with ((go_at_call 58; (with_reducible refine (H7.out _).mono ?_); rintro e w1 ⟨rfl, rfl⟩))
    go_ret
    exact ⟨rfl, Below.refl _ _⟩
  by_cases h8 : f = 8
  · subst h8
    go_wp2_with ((go_at_call 57; (with_reducible refine (H8.out _).mono ?_); rintro e w1 ⟨rfl, rfl⟩))
    go_ret
    exact ⟨rfl, Below.refl _ _⟩
  have e1 : (f == 1) = false := by simpa using h1
  have e2 : (f == 2) = false := by simpa using h2
  have e3 : (f == 3) = false := by simpa using h3
  have e4 : (f == 4) = false := by simpa using h4
  have e5 : (f == 5) = false := by simpa using h5
  have e6 : (f == 6) = false := by simpa using h6
  have e7 : (f == 7) = false := by simpa using h7
  have e8 : (f == 8) = false := by simpa using h8
  have E := Lib.hid (show hasB s f = false by unfold hasB; rw [if_neg h1, if_neg h2, if_neg h3, if_neg h4, if_neg h5, if_neg h6, if_neg h7, if_neg h8])
  clear h1 h2 h3 h4 h5 h6 h7 h8
  go_wp2_with fail
  go_ret
  exact ⟨ret_b E.out.symm, Below.refl _ _⟩
end Go.Proofs.Ytlhcjnjajkfahaa

/- Layer 30: the chapter's example; SniffNames, walked. -/
import Derived.Test.YtlhcjnjajkfahaaNJ
import Derived.Test.YtlhcjnjajkfahaaNE
namespace Go.Proofs.Ytlhcjnjajkfahaa
open Go.RowKit
set_option linter.unusedVariables false
set_option linter.unusedSimpArgs false
def Yes30 (w : World) (e : Ending) (w' : World) : Prop := e = .returned (.bool true) ∧ Below w.heap.size w w'
set_option maxRecDepth 100000 in
theorem awake30 (w : World) : Calls Try.prog 19 #[] w fun e w' => e = .returned (.bool true) ∧ Below w.heap.size w w' := by
  have H1 := Lib.hid (fun w0 => (show Calls Try.prog 26 #[.string ⟨#[97, 46, 98, 46, 80, 71, 77]⟩] w0 (fun e w' => e = .returned (.tuple #[.int .i64 3, .bool true]) ∧ Below w0.heap.size w0 w') from (named_any ⟨#[97, 46, 98, 46, 80, 71, 77]⟩ w0 (by decide)).mono fun e w' hh => ⟨hh.1.trans (by rw [show namedB ⟨#[97, 46, 98, 46, 80, 71, 77]⟩ = 3 by decide +kernel]; rfl), hh.2⟩))
  have H2 := Lib.hid (fun w0 => (show Calls Try.prog 22 #[.string ⟨#[66, 77]⟩] w0 (fun e w' => e = .returned (.int .i64 1) ∧ Below w0.heap.size w0 w') from (sformat_any ⟨#[66, 77]⟩ w0 (by decide)).mono fun e w' hh => ⟨hh.1.trans (by rw [show firstOf (allTo ⟨#[66, 77]⟩ 8) = 1 by decide +kernel]), hh.2⟩))
  have H3 := Lib.hid (fun w0 => (show Calls Try.prog 22 #[.string ⟨#[]⟩] w0 (fun e w' => e = .returned (.int .i64 0) ∧ Below w0.heap.size w0 w') from (sformat_any ⟨#[]⟩ w0 (by decide)).mono fun e w' hh => ⟨hh.1.trans (by rw [show firstOf (allTo ⟨#[]⟩ 8) = 0 by decide +kernel]), hh.2⟩))
  go_enter Try.func19, Try.ntmps19
  have BL := Lib.hid (Below.refl w.heap.size w)
  go_wp2_with (first
    | ((with_reducible refine skip_g rfl ?_ ?_); rfl; intro _)
    | ((go_at_call 26; (with_reducible refine (H1.out _).mono ?_); rintro e wc ⟨rfl, hb⟩); have BL := Lib.hid (bthen hb BL.out BL.out.size); clear hb)
    | ((go_at_call 22; (with_reducible refine (H2.out _).mono ?_); rintro e wc ⟨rfl, hb⟩); have BL := Lib.hid (bthen hb BL.out BL.out.size); clear hb)
    | ((go_at_call 22; (with_reducible refine (H3.out _).mono ?_); rintro e wc ⟨rfl, hb⟩); have BL := Lib.hid (bthen hb BL.out BL.out.size); clear hb))
  go_ret
  exact ⟨rfl, BL.out⟩
theorem str_nonempty {X : ByteArray} (h : X ≠ ByteArray.empty) : X.toList = [] → False := by
  intro e
  apply h
  rw [ByteArray.toList_eq] at e
  exact ByteArray.ext (Array.ext' e)
set_option maxRecDepth 100000 in
set_option maxHeartbeats 4000000 in
theorem snames_law (s : ByteArray) (f : Int) (hs : s.size ≤ maxLen) (hf : (Lit.int .i64 f).wf = true) (w : World) : Calls Try.prog 5 #[.string s, .int .i64 f] w (Yes30 w) := by
  unfold maxLen at hs
  have BL := Lib.hid (Below.refl w.heap.size w)
  clear hf
  by_cases h1 : 100 < s.size
  · have D1 : decide ((s.size : Int) > 100) = true := by rw [decide_eq_true_iff]; omega
    go_enter Try.func5, Try.ntmps5
    go_wp2_with (go_at_call 19; (with_reducible refine (awake30 _).mono ?_); rintro e w1 ⟨rfl, hb⟩)
    go_ret
    exact ⟨rfl, hb⟩
  have D1 : decide ((s.size : Int) > 100) = false := by rw [decide_eq_false_iff_not]; omega
  obtain ⟨R, hR⟩ : ∃ R, namedB s = R := ⟨_, rfl⟩
  obtain ⟨b, hb0⟩ : ∃ b, (R != 0) = b := ⟨_, rfl⟩
  have H1 := Lib.hid (fun w0 => (show Calls Try.prog 26 #[.string s] w0 (fun e w' => e = .returned (.tuple #[.int .i64 R, .bool b]) ∧ Below w0.heap.size w0 w') from (named_any s w0 (by omega)).mono fun e w' hh => ⟨hh.1.trans (by rw [hR, hb0]), hh.2⟩))
  have H2 := Lib.hid (fun w0 => (show Calls Try.prog 27 #[.string s] w0 (fun e w' => e = .returned (.int .i64 R) ∧ Below w0.heap.size w0 w') from (rnamed_any s w0 (by omega)).mono fun e w' hh => ⟨hh.1.trans (by rw [rnamed_eq, hR]), hh.2⟩))
  obtain ⟨X, hX⟩ : ∃ X, extS f = X := ⟨_, rfl⟩
  have H3 := Lib.hid (fun w0 => (show Calls Try.prog 28 #[.int .i64 f] w0 (fun e w' => e = .returned (.string X) ∧ w' = w0) from (ext_any f w0).mono fun e w' hh => ⟨hh.1.trans (by rw [hX]), hh.2⟩))
  have H9 := Lib.hid (fun w0 => awake30 w0)
  clear hR
  by_cases hin : 1 ≤ f ∧ f ≤ 8
  · obtain ⟨n1, n2, n3⟩ := named_ext f hin
    rw [hX] at n1 n2 n3
    have hsz : ((⟨#[120, 46]⟩ : ByteArray) ++ X).size ≤ 140737488355328 := by rw [ByteArray.size_append]; have : (⟨#[120, 46]⟩ : ByteArray).size = 2 := rfl; omega
    have hfz : (f != 0) = true := by rw [bne_iff_ne]; omega
    have H4 := Lib.hid (fun w0 => (show Calls Try.prog 26 #[.string ((⟨#[120, 46]⟩ : ByteArray) ++ X)] w0 (fun e w' => e = .returned (.tuple #[.int .i64 f, .bool true]) ∧ Below w0.heap.size w0 w') from (named_any _ w0 hsz).mono fun e w' hh => ⟨hh.1.trans (by rw [n1, hfz]), hh.2⟩))
    have d1 : decide (f < 1) = false := by rw [decide_eq_false_iff_not]; omega
    have d2 : decide (f > 8) = false := by rw [decide_eq_false_iff_not]; omega
    have x1 : (X.toList = []) = False := eq_false (str_nonempty n2)
    have x2 : (!X.toList.isEmpty) = true := by cases h : X.toList with | nil => exact (str_nonempty n2 h).elim | cons _ _ => rfl
    clear n1 n2 hX hin hfz hsz hs h1
    go_enter Try.func5, Try.ntmps5
    cases b
    all_goals
      go_wp2_with (first
        | ((with_reducible refine skip_g rfl ?_ ?_); rfl; intro _)
        | ((go_at_call 26; (with_reducible refine (H1.out _).mono ?_); rintro e wc ⟨rfl, hb⟩); have BL := Lib.hid (bthen hb BL.out BL.out.size); clear hb)
        | ((go_at_call 26; (with_reducible refine (H4.out _).mono ?_); rintro e wc ⟨rfl, hb⟩); have BL := Lib.hid (bthen hb BL.out BL.out.size); clear hb)
        | ((go_at_call 27; (with_reducible refine (H2.out _).mono ?_); rintro e wc ⟨rfl, hb⟩); have BL := Lib.hid (bthen hb BL.out BL.out.size); clear hb)
        | ((go_at_call 28; (with_reducible refine (H3.out _).mono ?_); rintro e wc ⟨rfl, rfl⟩))
        | ((go_at_call 19; (with_reducible refine (H9.out _).mono ?_); rintro e wc ⟨rfl, hb⟩); have BL := Lib.hid (bthen hb BL.out BL.out.size); clear hb))
      go_ret
      exact ⟨rfl, BL.out⟩
  · have hXE : X = ByteArray.empty := by rw [← hX]; exact ext_none f hin
    subst hXE
    have hd : decide (f < 1) = true ∨ (decide (f < 1) = false ∧ decide (f > 8) = true) := by
      by_cases h : f < 1
      · exact Or.inl (decide_eq_true h)
      · exact Or.inr ⟨decide_eq_false h, decide_eq_true (by omega)⟩
    clear hX hin hs h1
    go_enter Try.func5, Try.ntmps5
    rcases hd with d1 | ⟨d1, d2⟩ <;> cases b
    all_goals
      go_wp2_with (first
        | ((with_reducible refine skip_g rfl ?_ ?_); rfl; intro _)
        | ((go_at_call 26; (with_reducible refine (H1.out _).mono ?_); rintro e wc ⟨rfl, hb⟩); have BL := Lib.hid (bthen hb BL.out BL.out.size); clear hb)
        | ((go_at_call 27; (with_reducible refine (H2.out _).mono ?_); rintro e wc ⟨rfl, hb⟩); have BL := Lib.hid (bthen hb BL.out BL.out.size); clear hb)
        | ((go_at_call 28; (with_reducible refine (H3.out _).mono ?_); rintro e wc ⟨rfl, rfl⟩))
        | ((go_at_call 19; (with_reducible refine (H9.out _).mono ?_); rintro e wc ⟨rfl, hb⟩); have BL := Lib.hid (bthen hb BL.out BL.out.size); clear hb))
      go_ret
      exact ⟨rfl, BL.out⟩
end Go.Proofs.Ytlhcjnjajkfahaa

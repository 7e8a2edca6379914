/- r30.Format, sniff.All (the maker of the sequence), walked. -/
import Derived.Test.YtlhcjnjajkfahaaNB
namespace Go.Proofs.Ytlhcjnjajkfahaa
open Go.RowKit
set_option linter.unusedVariables false
set_option linter.unusedSimpArgs false
def firstOf : List Int → Int
  | [] => 0
  | x :: _ => x
set_option maxRecDepth 100000 in
theorem rformat_any (s : ByteArray) (w : World) (hs : s.size ≤ 9223372036854775807) : Calls Try.prog 23 #[.string s] w (fun e w' => e = .returned (.int .i64 (firstOf (allTo s 8))) ∧ Below w.heap.size w w') := by
  have HC := Lib.hid (show Calls Try.prog 21 #[.string s] w (fun e w' => ∃ v, e = .returned v ∧ w'.ownsRow w.heap.size 3 1 v (allTo s 8).length ((allTo s 8).map (.int .i64)) ∧ Below w.heap.size w w') from rall_any s w hs)
  obtain ⟨L, hL⟩ : ∃ L, allTo s 8 = L := ⟨_, rfl⟩
  rw [hL] at HC ⊢
  cases L with
  | nil =>
    go_enter Try.func23, Try.ntmps23
    go_wp2_with ((go_at_call 21; (with_reducible refine (HC.out).mono ?_); rintro x w1 ⟨v, rfl, hown, hb⟩); obtain ⟨a, cap, rfl⟩ := owns_shape hown; have BL := Lib.hid hb; clear hown hb)
    go_ret
    exact ⟨rfl, BL.out⟩
  | cons f L =>
    have D : decide (((L.length : Int) + 1) = 0) = false := by rw [decide_eq_false_iff_not]; omega
    go_enter Try.func23, Try.ntmps23
    go_wp2_with ((go_at_call 21; (with_reducible refine (HC.out).mono ?_); rintro x w1 ⟨v, rfl, hown, hb⟩); obtain ⟨g, cap, rfl, hg1, hg2, hg3, hg4⟩ := owns_form hown (by simp); have c0 := owns_cell hown 0 (.int .i64 f) rfl; have BL := Lib.hid hb; clear hown hb)
    go_ret
    exact ⟨rfl, BL.out⟩
set_option maxRecDepth 100000 in
theorem sall_any (s : ByteArray) (w : World) : Calls Try.prog 20 #[.string s] w (fun e w' => e = .returned (.func (.func 51) #[] #[.pointer (some ⟨w.heap.size, 0, none⟩)]) ∧ w' = w.alloc (.cells #[.string s] 9)) := by
  have hmf : ∀ (fn : Fn) (first cap : Array Value) (w : World), (Instr.makeFunc fn first cap).run Try.prog w = .ok (.func fn first cap) w := fun _ _ _ _ => rfl
  go_enter Try.func20, Try.ntmps20
  go_wp2
  go_ret
  exact ⟨rfl, rfl⟩
end Go.Proofs.Ytlhcjnjajkfahaa

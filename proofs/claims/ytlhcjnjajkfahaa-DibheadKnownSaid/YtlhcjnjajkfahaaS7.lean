/- The source's readers of numbers; windows. -/
import Derived.Test.YtlhcjnjajkfahaaS6
namespace Go.Proofs.Ytlhcjnjajkfahaa
open Go.RowKit
set_option linter.unusedVariables false
def numB (s : ByteArray) (low : Bool) : Int := if low = true then loK s s.size else hiK s s.size
theorem numB_bd (s : ByteArray) (low : Bool) : 0 ≤ numB s low ∧ numB s low < 2 ^ (8 * s.size) := by
  unfold numB
  cases low
  · exact hiK_bd s _
  · exact loK_bd s _
theorem next_size (x : Sr) (l : Led) (n : Int) (h : 0 ≤ n) : ((x.next l n).2.1.size : Int) ≤ n := by
  unfold Sr.next
  split
  · simp only [ByteArray.size_extract]; omega
  · simpa using h
def NumPost (w : World) (X : Nat) (x y : Sr) (m : Led) (v : Int) (ok : Bool) (e : Ending) (w' : World) : Prop := e = .returned (.tuple #[.int .i64 v, .bool ok]) ∧ Pair w' X y m ∧ Chg (two X x) w w'
abbrev NumOf (w : World) (X : Nat) (x : Sr) (l : Led) (n : Int) (low : Bool) : Ending → World → Prop := NumPost w X x (x.next l n).1.1 (x.next l n).1.2 (numB (x.next l n).2.1 low) (x.next l n).2.2
/-- Four bytes with a sign. -/
def signed (v : Int) : Int := if 2147483648 ≤ v then v - 4294967296 else v
theorem signed_wrap (v : Int) (h0 : 0 ≤ v) (h1 : v < 4294967296) : wrap64 (wrap32 (v % 4294967296)) = signed v := by
  unfold wrap64 wrap32 signed; split <;> omega
theorem ret_num {a b : Int} {ok : Bool} (h : a = b) : Ending.returned (.tuple #[.int .i64 a, .bool ok]) = Ending.returned (.tuple #[.int .i64 b, .bool ok]) := by rw [h]
abbrev SgnOf (w : World) (X : Nat) (x : Sr) (l : Led) : Ending → World → Prop := NumPost w X x (x.next l 4).1.1 (x.next l 4).1.2 (signed (numB (x.next l 4).2.1 true)) (x.next l 4).2.2
theorem next_ok {x : Sr} {l : Led} {n : Int} (h : (x.next l n).2.2 = true) : (l.work 1).2 = true ∧ 0 ≤ n ∧ n ≤ (x.e : Int) - x.p ∧ (x.next l n).1.1 = { x with p := x.p + n.toNat } ∧ (x.next l n).1.2 = (l.work 1).1 ∧ (x.next l n).2.1 = x.s.extract x.p (x.p + n.toNat) := by
  unfold Sr.next at h ⊢
  by_cases hc : (l.work 1).2 = true ∧ 0 ≤ n ∧ n ≤ (x.e : Int) - x.p
  · rw [if_pos hc]; exact ⟨hc.1, hc.2.1, hc.2.2, rfl, rfl, rfl⟩
  · rw [if_neg hc] at h; simp at h
theorem next_bad {x : Sr} {l : Led} {n : Int} (h : (x.next l n).2.2 = false) : (x.next l n).1.1 = x ∧ (x.next l n).1.2 = (l.work 1).1 ∧ (x.next l n).2.1 = ByteArray.empty ∧ ¬ ((l.work 1).2 = true ∧ 0 ≤ n ∧ n ≤ (x.e : Int) - x.p) := by
  unfold Sr.next at h ⊢
  by_cases hc : (l.work 1).2 = true ∧ 0 ≤ n ∧ n ≤ (x.e : Int) - x.p
  · rw [if_pos hc] at h; simp at h
  · rw [if_neg hc]; exact ⟨rfl, rfl, rfl, hc⟩
abbrev PeekOf (w : World) (X : Nat) (x : Sr) (l : Led) : Ending → World → Prop := NumPost w X x x (x.next l 1).1.2 (numB (x.next l 1).2.1 true) (x.next l 1).2.2
/-! ### windows -/
def Sr.winB (x : Sr) (a n : Int) : Prop := (x.b : Int) ≤ a ∧ a ≤ x.e ∧ 0 ≤ n ∧ n ≤ (x.e : Int) - a
end Go.Proofs.Ytlhcjnjajkfahaa

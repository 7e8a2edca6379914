/- The law SrcWindows, walked. -/
import Derived.Test.YtlhcjnjajkfahaaS7
namespace Go.Proofs.Ytlhcjnjajkfahaa
open Go.RowKit
set_option linter.unusedVariables false
def Yes5 (w : World) (e : Ending) (w' : World) : Prop := e = .returned (.bool true) ∧ Below w.heap.size w w'
/-- A ledger and a source over a text, made anew. -/
theorem SrcAt.mk' {w : World} {X L : Nat} {s : ByteArray} {b e p : Nat} (h : Obj1 w X (Sr.cells ⟨L, s, b, e, p⟩) 99) (h1 : b ≤ p) (h2 : p ≤ e) (h3 : e ≤ s.size) (h4 : s.size ≤ 9223372036854775807) (hn : X ≠ L) : SrcAt w X ⟨L, s, b, e, p⟩ := ⟨h, ⟨h1, h2, h3, h4⟩, hn⟩
def Fresh (X : Nat) (w w' : World) : Prop := w.heap.size ≤ X ∧ X < w'.heap.size
theorem chg_none {w w' : World} (h : Chg (fun _ => False) w w') : Below w.heap.size w w' := h.below (Nat.le_refl _) (fun _ h => h.elim)
theorem chg_two {W w w' : World} {X : Nat} {x : Sr} (hW : Below W.heap.size W w) (h : Chg (two X x) w w') (h1 : W.heap.size ≤ X) (h2 : W.heap.size ≤ x.L) : Below W.heap.size W w' :=
  bchg hW h hW.size (fun k hk => by rcases hk with rfl | rfl; · exact h1
                                    · exact h2)
def b123 : ByteArray := ⟨#[1, 2, 3]⟩
def l10 (k : Int) : Led := { Led.new 0 0 0 10 with st := k }
theorem ex1 (L : Nat) : Sr.next ⟨L, b123, 0, 3, 0⟩ (l10 0) 2 = ((⟨L, b123, 0, 3, 2⟩, l10 1), (⟨#[1, 2]⟩, true)) := rfl
theorem ex2 (L : Nat) : Sr.next ⟨L, b123, 0, 3, 2⟩ (l10 1) 2 = ((⟨L, b123, 0, 3, 2⟩, l10 2), (ByteArray.empty, false)) := rfl
theorem ex3 (L : Nat) : Sr.next ⟨L, b123, 0, 3, 2⟩ (l10 2) 1 = ((⟨L, b123, 0, 3, 3⟩, l10 3), (⟨#[3]⟩, true)) := rfl
theorem num12 : numB ⟨#[1, 2]⟩ true = 513 := by decide +kernel
theorem num0 : numB ByteArray.empty true = 0 := by decide +kernel
theorem num3 : numB ⟨#[3]⟩ true = 3 := by decide +kernel
theorem num_at {w : World} {X : Nat} {x y : Sr} {l m : Led} {n : Int} {low ok : Bool} {s : ByteArray} {v : Int} {e : Ending} {w' : World} (h : NumOf w X x l n low e w') (hr : x.next l n = ((y, m), (s, ok))) (hv : numB s low = v) : NumPost w X x y m v ok e w' := by
  unfold NumOf at h; rw [hr] at h; subst hv; exact h
theorem lnew_k (k : Int) (w : World) (hk : k = 9 ∨ k = 10 ∨ k = 100 ∨ k = 1000) : Calls Try.prog 69 #[.agg #[.int .i64 0, .int .i64 0, .int .i64 0, .int .i64 k]] w fun e w' =>
      ∃ L, e = .returned (.pointer (some ⟨L, 0, none⟩)) ∧ LedAt w' L (Led.new 0 0 0 k) ∧ w.heap.size ≤ L ∧ Chg (fun _ => False) w w' := lnew_any 0 0 0 k w (by decide) (by omega)
/-! ### SrcWindows -/
theorem snew_at (L : Nat) (s : ByteArray) (l : Led) (w : World) (hs : s.size ≤ 9223372036854775807) (hL : LedAt w L l) : Calls Try.prog 68 #[.pointer (some ⟨L, 0, none⟩), .string s] w fun e w' =>
      ∃ X, e = .returned (.tuple #[.pointer (some ⟨X, 0, none⟩), .int .i64 0]) ∧ Pair w' X ⟨L, s, 0, s.size, 0⟩ l ∧ w.heap.size ≤ X ∧ Chg (fun _ => False) w w' :=
  (snew_any L s w hs hL.lt).mono fun e w' ⟨X, h1, h2, h3, h4⟩ => ⟨X, h1, ⟨h2, hL.chg h4 (fun h => h)⟩, h3, h4⟩
end Go.Proofs.Ytlhcjnjajkfahaa

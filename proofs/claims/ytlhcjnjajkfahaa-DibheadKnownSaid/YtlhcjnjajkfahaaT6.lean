/- tgahead.Read, walked. -/
import Derived.Test.YtlhcjnjajkfahaaT5
namespace Go.Proofs.Ytlhcjnjajkfahaa
open Go.RowKit
set_option linter.unusedVariables false
set_option linter.unusedSimpArgs false
theorem Stored.chg {S : Nat → Prop} {a w w2 : World} {b o : Nat} {vs : List Value} (hst : Stored w b o vs w2) (h : Chg S a w) (hb : a.heap.size ≤ b) : Chg S a w2 := by
  rw [show w2 = _ from hst]; clear hst
  induction vs generalizing w o with
  | nil => exact h
  | cons v r ih => rw [World.setCells]; exact ih (h.set _ _ (Or.inr hb))
theorem Pair.into {w w2 : World} {X b o : Nat} {vs : List Value} {x : Sr} {l : Led} (h : Pair w X x l) (hst : Stored w b o vs w2) (h1 : X ≠ b) (h2 : x.L ≠ b) : Pair w2 X x l :=
  ⟨⟨hst.oth h.src.obj h1, h.src.ok, h.src.ne⟩, ⟨hst.oth h.led.obj h2, h.led.ok⟩⟩
theorem Pair.upon {B : Nat} {w w' : World} {X : Nat} {x : Sr} {l : Led} (h : Pair w X x l) (hb : Below B w w') (h1 : X < B) (h2 : x.L < B) : Pair w' X x l := ⟨⟨h.src.obj.below hb h1, h.src.ok, h.src.ne⟩, ⟨h.led.obj.below hb h2, h.led.ok⟩⟩
def faultL (x : Sr) (l : Led) (f : Int) : List Value := if l.br = true then [.int .i64 4, .int .i64 f, .int .i64 x.p] else [.int .i64 1, .int .i64 f, .int .i64 x.e]
theorem faultL_eq (x : Sr) (l : Led) (f : Int) : x.fault l f = .agg (faultL x l f).toArray := by unfold Sr.fault faultL; split <;> rfl
theorem faultL_len (x : Sr) (l : Led) (f : Int) : (faultL x l f).length = 3 := by unfold faultL; split <;> rfl
theorem faultL_one (x : Sr) (l : Led) (f : Int) : (faultL x l f).all (·.oneCell') = true := by unfold faultL; split <;> rfl
def zero12 : List Value := [.int .i64 0, .bool false, .int .i64 0, .int .i64 0, .int .i64 0, .int .i64 0, .int .i64 0, .int .i64 0, .int .i64 0, .int .i64 0, .bool false, .bool false]
def tRead (x : Sr) (l : Led) : List Value × List Value :=
  if (x.next l 18).2.2 = true then (match (chkS (x.next l 18).2.1).first with | some p => (zero12, [.int .i64 p.1, .int .i64 2, .int .i64 (x.p + p.2)]) | none => (headL (x.next l 18).2.1, [.int .i64 0, .int .i64 0, .int .i64 0]))
  else (zero12, faultL (x.next l 18).1.1 (x.next l 18).1.2 2)
def TReadPost (w : World) (X : Nat) (x : Sr) (l : Led) (e : Ending) (w' : World) : Prop :=
  e = .returned (.tuple #[.agg (tRead x l).1.toArray, .agg (tRead x l).2.toArray]) ∧ Pair w' X (x.next l 18).1.1 (x.next l 18).1.2 ∧ Chg (two X x) w w'
theorem next_L (x : Sr) (l : Led) (n : Int) : (x.next l n).1.1.L = x.L := by unfold Sr.next; split <;> rfl
theorem headL_len (s : ByteArray) : (headL s).length = 12 := rfl
theorem headL_one (s : ByteArray) : (headL s).all (·.oneCell') = true := rfl
theorem fault_c (X : Nat) (x : Sr) (l : Led) (f : Int) (w : World) (F : List Value) (hF : faultL x l f = F) (h : Pair w X x l) : Calls Try.prog 75 #[.pointer (some ⟨X, 0, none⟩), .int .i64 f] w (RA w F) := by
  subst hF
  exact (fault_any X x l f w h).mono fun e w' hh => ⟨hh.1.trans (by rw [faultL_eq]), hh.2⟩
theorem checks_d (s : ByteArray) (c : Chk) (w : World) (h : s.size = 18) (hc : chkS s = c) : Calls Try.prog 93 #[.string s] w fun e w' => ∃ B T, e = .returned (.slice (some ⟨B, 0, none⟩) 12 12) ∧ Obj1 w' B c.arr T ∧ w.heap.size ≤ B ∧ Below w.heap.size w w' := by
  subst hc; exact checks_any s w h
end Go.Proofs.Ytlhcjnjajkfahaa

/- icodir.Read and the document's, plain: what they compute. -/
import Derived.Test.YtomikbecbbjhoaaI5
namespace Go.Proofs.Ytomikbecbbjhoaa
open Go.RowKit
set_option linter.unusedVariables false
set_option linter.unusedSimpArgs false
/-- An entry's numbers. -/
structure Ent where
  (W H A B Z P : Int)
def Ent.cells (e : Ent) : List Value := [.int .i64 e.W, .int .i64 e.H, .int .i64 e.A, .int .i64 e.B, .int .i64 e.Z, .int .i64 e.P]
def Ent.zero : Ent := ⟨0, 0, 0, 0, 0, 0⟩
def entE (s : ByteArray) (a : Nat) : Ent := ⟨sideI (byN s a), sideI (byN s (a + 1)), lowK s (a + 4) 2, lowK s (a + 6) 2, lowK s (a + 8) 4, lowK s (a + 12) 4⟩
theorem entL_cells (s : ByteArray) (a : Nat) : entL s a = (entE s a).cells := rfl
structure Ent.ok (e : Ent) : Prop where
  w0 : 0 ≤ e.W
  w1 : e.W ≤ 256
  h0 : 0 ≤ e.H
  h1 : e.H ≤ 256
  z0 : 0 ≤ e.Z
  z1 : e.Z ≤ 4294967295
  p0 : 0 ≤ e.P
  p1 : e.P ≤ 4294967295
theorem sideI_bd (s : ByteArray) (i : Nat) : 0 ≤ sideI (byN s i) ∧ sideI (byN s i) ≤ 256 := by
  have := byN_bd s i
  unfold sideI
  split <;> omega
theorem lowK4_bd (s : ByteArray) (i : Nat) : 0 ≤ lowK s i 4 ∧ lowK s i 4 ≤ 4294967295 := by
  have h := lowK_bd s i 4
  rw [show (2 : Int) ^ (8 * 4) = 4294967296 by decide] at h
  omega
theorem lowK2_bd (s : ByteArray) (i : Nat) : 0 ≤ lowK s i 2 ∧ lowK s i 2 ≤ 65535 := by
  have h := lowK_bd s i 2
  rw [show (2 : Int) ^ (8 * 2) = 65536 by decide] at h
  omega
theorem entE_ok (s : ByteArray) (a : Nat) : (entE s a).ok :=
  ⟨(sideI_bd s a).1, (sideI_bd s a).2, (sideI_bd s _).1, (sideI_bd s _).2, (lowK4_bd s _).1, (lowK4_bd s _).2, (lowK4_bd s _).1, (lowK4_bd s _).2⟩
theorem Ent.zero_ok : Ent.zero.ok := ⟨by decide, by decide, by decide, by decide, by decide, by decide, by decide, by decide⟩
def Ent.beats (e d : Ent) (cur : Bool) : Bool := betterB (e.W * e.H) (d.W * d.H) e.B d.B cur
structure IR where
  y : Sr
  m : Led
  f : Option (List Value)
  b : Int
  e : Ent
def iLoop (N A : Int) (cur : Bool) : Nat → Int → Sr → Led → Int → Ent → IR
  | 0, _, y, m, b, E => ⟨y, m, none, b, E⟩
  | k + 1, i, y, m, b, E =>
    if (y.next m 16).2.2 = true then
      bif decide ((entE (y.next m 16).2.1 0).P < 6 + 16 * N) || decide ((entE (y.next m 16).2.1 0).P > A) || decide ((entE (y.next m 16).2.1 0).Z > A - (entE (y.next m 16).2.1 0).P) then ⟨(y.next m 16).1.1, (y.next m 16).1.2, some [.int .i64 2, .int .i64 4, .int .i64 ((y.p : Int) + 12)], b, E⟩
      else bif (i == 0) || (entE (y.next m 16).2.1 0).beats E cur then iLoop N A cur k (i + 1) (y.next m 16).1.1 (y.next m 16).1.2 i (entE (y.next m 16).2.1 0)
      else iLoop N A cur k (i + 1) (y.next m 16).1.1 (y.next m 16).1.2 b E
    else ⟨(y.next m 16).1.1, (y.next m 16).1.2, some (faultL (y.next m 16).1.1 (y.next m 16).1.2 4), b, E⟩
theorem iLoop_end (N A : Int) (cur : Bool) (i : Int) (y : Sr) (m : Led) (b : Int) (E : Ent) : iLoop N A cur 0 i y m b E = ⟨y, m, none, b, E⟩ := rfl
/-- One round. -/
theorem iLoop_no {N A : Int} {cur : Bool} {k : Nat} {i : Int} {y : Sr} {m : Led} {b : Int} {E : Ent} {y' : Sr} {m' : Led} {s : ByteArray} (hn : y.next m 16 = ((y', m'), (s, false))) :
    iLoop N A cur (k + 1) i y m b E = ⟨y', m', some (faultL y' m' 4), b, E⟩ := by
  rw [iLoop, hn]; rfl
theorem iLoop_yes {N A : Int} {cur : Bool} {k : Nat} {i : Int} {y : Sr} {m : Led} {b : Int} {E : Ent} {y' : Sr} {m' : Led} {s : ByteArray} {e : Ent} (hn : y.next m 16 = ((y', m'), (s, true))) (he : entE s 0 = e) :
    iLoop N A cur (k + 1) i y m b E = bif decide (e.P < 6 + 16 * N) || decide (e.P > A) || decide (e.Z > A - e.P) then ⟨y', m', some [.int .i64 2, .int .i64 4, .int .i64 ((y.p : Int) + 12)], b, E⟩
      else bif (i == 0) || e.beats E cur then iLoop N A cur k (i + 1) y' m' i e else iLoop N A cur k (i + 1) y' m' b E := by
  subst he; rw [iLoop, hn]; rfl
def bGood (x : Sr) (l : Led) : Bool :=
  (x.next l 6).2.2 && !(lowK (x.next l 6).2.1 0 2 != 0) && !(decide (lowK (x.next l 6).2.1 2 2 < 1) || decide (lowK (x.next l 6).2.1 2 2 > 2)) && !(lowK (x.next l 6).2.1 4 2 == 0)
theorem bGood_yes {x : Sr} {l : Led} (h : bGood x l = true) : bRead x l = ([.bool (byN (x.next l 6).2.1 2 == 2), .int .i64 (lowK (x.next l 6).2.1 4 2), .int .i64 0, .int .i64 0, .int .i64 0, .int .i64 0, .int .i64 0, .int .i64 0, .int .i64 0], [.int .i64 0, .int .i64 0, .int .i64 0]) ∧ (x.next l 6).2.2 = true ∧ 1 ≤ lowK (x.next l 6).2.1 4 2 ∧ lowK (x.next l 6).2.1 4 2 ≤ 65535 := by
  have hb := lowK2_bd (x.next l 6).2.1 4
  unfold bGood at h
  unfold bRead
  cases h0 : (x.next l 6).2.2 with
  | false => rw [h0] at h; simp at h
  | true =>
    rw [h0] at h
    cases h1 : (lowK (x.next l 6).2.1 0 2 != 0) with
    | true => rw [h1] at h; simp at h
    | false =>
      rw [h1] at h
      cases h2 : (decide (lowK (x.next l 6).2.1 2 2 < 1) || decide (lowK (x.next l 6).2.1 2 2 > 2)) with
      | true => rw [h2] at h; simp at h
      | false =>
        rw [h2] at h
        cases h3 : (lowK (x.next l 6).2.1 4 2 == 0) with
        | true => rw [h3] at h; simp at h
        | false => refine ⟨rfl, rfl, ?_, hb.2⟩; have : lowK (x.next l 6).2.1 4 2 ≠ 0 := by simpa using h3
                   omega
theorem bGood_no {x : Sr} {l : Led} (h : bGood x l = false) : ∃ k a p : Int, (k != 0) = true ∧ bRead x l = (zero9, [.int .i64 k, .int .i64 a, .int .i64 p]) := by
  unfold bGood at h
  unfold bRead
  cases h0 : (x.next l 6).2.2 with
  | false =>
    rw [if_neg (by exact Bool.false_ne_true)]
    unfold faultL
    split
    · exact ⟨_, _, _, by decide, rfl⟩
    · exact ⟨_, _, _, by decide, rfl⟩
  | true =>
    rw [if_pos rfl]
    rw [h0] at h
    cases h1 : (lowK (x.next l 6).2.1 0 2 != 0) with
    | true => exact ⟨_, _, _, by decide, rfl⟩
    | false =>
      cases h2 : (decide (lowK (x.next l 6).2.1 2 2 < 1) || decide (lowK (x.next l 6).2.1 2 2 > 2)) with
      | true => exact ⟨_, _, _, by decide, rfl⟩
      | false =>
        cases h3 : (lowK (x.next l 6).2.1 4 2 == 0) with
        | true => exact ⟨_, _, _, by decide, rfl⟩
        | false => rw [h1, h2, h3] at h; simp at h
def dCells (cur : Bool) (N b : Int) (E : Ent) : List Value := [.bool cur, .int .i64 N, .int .i64 b, .int .i64 E.W, .int .i64 E.H, .int .i64 E.A, .int .i64 E.B, .int .i64 E.Z, .int .i64 E.P]
def dRun (x : Sr) (l : Led) : IR := iLoop (lowK (x.next l 6).2.1 4 2) ((x.e : Int) - x.p) (byN (x.next l 6).2.1 2 == 2) (lowK (x.next l 6).2.1 4 2).toNat 0 (x.next l 6).1.1 (x.next l 6).1.2 0 Ent.zero
def dRead (x : Sr) (l : Led) : (List Value × List Value) × (Sr × Led) :=
  bif bGood x l then
    match (dRun x l).f with
    | some F => ((zero9, F), ((dRun x l).y, (dRun x l).m))
    | none => ((dCells (byN (x.next l 6).2.1 2 == 2) (lowK (x.next l 6).2.1 4 2) (dRun x l).b { (dRun x l).e with P := (dRun x l).e.P + x.p }, [.int .i64 0, .int .i64 0, .int .i64 0]), ((dRun x l).y, (dRun x l).m))
  else (bRead x l, (x.next l 6).1)
end Go.Proofs.Ytomikbecbbjhoaa

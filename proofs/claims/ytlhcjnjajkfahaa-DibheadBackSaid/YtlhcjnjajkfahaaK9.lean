/- The frame of a walk is forgotten, but for the slots that 'return' needs: the last step is quick then. No program in sight. -/
import Derived.Test.YtlhcjnjajkfahaaK1
import Derived.Test.YtlhcjnjajkfahaaK8
import Derived.Deep.RegionHeld3
import Derived.Deep.CutRange
import Derived.Test.YtlhcjnjajkfahaaK5
import Derived.Deep.AppendLies
import Derived.Deep.RegionLaw
import Derived.Shelf.Bits.Mul64
import Derived.Test.YtlhcjnjajkfahaaK7
namespace Go
/-- The frame is forgotten but for one slot: what 'return' needs. -/
theorem gen_frame {P : Program} {ops : Array Oper} {Q : Exit → Act → World → Prop} {a : Act} {w : World} (p : Nat) (v : Value) (hv : a.tmps.getD p undef = v) (hd : a.defers = [])
    (h : ∀ A : Act, A.tmps.getD p undef = v → A.defers = [] → wpList P ops Q [] A w) : wpList P ops Q [] a w := h a hv hd
/-- .. but for two. -/
theorem gen_frame2 {P : Program} {ops : Array Oper} {Q : Exit → Act → World → Prop} {a : Act} {w : World} (p q : Nat) (v u : Value) (hv : a.tmps.getD p undef = v) (hu : a.tmps.getD q undef = u) (hd : a.defers = [])
    (h : ∀ A : Act, A.tmps.getD p undef = v → A.tmps.getD q undef = u → A.defers = [] → wpList P ops Q [] A w) : wpList P ops Q [] a w := h a hv hu hd
end Go

/- The reference of layer 16: Read, walked. -/
namespace Go.Proofs.Ytlhcjnjajkfahaa
open Go.RowKit
set_option linter.unusedVariables false
set_option linter.unusedSimpArgs false
def rBad16 (k a : Int) : List Value := [.int .i64 0, .int .i64 0, .int .i64 0, .int .i64 0, .int .i64 0, .int .i64 0, .int .i64 0, .int .i64 0, .int .i64 0, .int .i64 0, .bool false, .bool false, .int .i64 k, .int .i64 a]
def R16 (w : World) (L : List Value) (e : Ending) (w' : World) : Prop := e = .returned (.agg L.toArray) ∧ Below w.heap.size w w'
def rHead16 (s : ByteArray) : List Value :=
  [.int .i64 (byN s 0), .int .i64 (byN s 1), .int .i64 (byN s 2), .int .i64 (if (byN s 1 == 1) = true then wordN s 3 else 0), .int .i64 (if (byN s 1 == 1) = true then wordN s 5 else 0), .int .i64 (if (byN s 1 == 1) = true then byN s 7 else 0),
    .int .i64 (wordN s 12), .int .i64 (wordN s 14), .int .i64 (byN s 16), .int .i64 (byN s 17 % 16), .bool (byN s 17 / 16 % 2 == 1), .bool (byN s 17 / 32 % 2 == 1), .int .i64 0, .int .i64 0]
def rRes16 (s : ByteArray) : List Value := if s.size < 18 then rBad16 1 s.size else match (chkS s).first with | some p => rBad16 p.1 p.2 | none => rHead16 s
theorem lo_word (s : ByteArray) (a : Nat) (h : a + 2 ≤ s.size) : loK (s.extract a (a + 2)) 2 = wordN s a := by
  unfold wordN loK loK loK
  rw [byN_ext s a (a + 2) 0 (by omega) h, byN_ext s a (a + 2) 1 (by omega) h]
  simp
theorem le_word (s : ByteArray) (a : Nat) (V : Int) (w : World) (h : a + 2 ≤ s.size) (hV : wordN s a = V) : Calls Try.prog 41 #[.string (s.extract a (a + 2))] w fun e w' => e = .returned (.int .i64 V) ∧ w' = w := by
  have hz : (s.extract a (a + 2)).size = 2 := by rw [ByteArray.size_extract]; omega
  refine (rle_any (s.extract a (a + 2)) w (by omega)).mono ?_
  rintro e w' ⟨rfl, rfl⟩
  exact ⟨ret_i (by rw [hz, lo_word s a h, hV]), rfl⟩
def resOf (o : Option (Int × Int)) (H : List Value) : List Value := match o with | some p => rBad16 p.1 p.2 | none => H
theorem resOf_if (b : Bool) (p : Int × Int) (o : Option (Int × Int)) (H : List Value) : resOf (if b = true then some p else o) H = bif b then rBad16 p.1 p.2 else resOf o H := by cases b <;> rfl
theorem rRes16_eq (s : ByteArray) (h : ¬ s.size < 18) : rRes16 s = (bif decide (1 < byN s 1) then rBad16 2 1 else bif !knownB (byN s 2) then rBad16 3 2 else bif (plainI (byN s 2) == 1) && !(byN s 1 == 1) then rBad16 2 1 else
    bif (byN s 1 == 1) && !colB (byN s 7) then rBad16 3 7 else bif (byN s 1 == 1) && wordN s 5 == 0 then rBad16 2 5 else bif wordN s 12 == 0 then rBad16 2 12 else bif decide (16384 < wordN s 12) then rBad16 3 12 else
    bif wordN s 14 == 0 then rBad16 2 14 else bif decide (16384 < wordN s 14) then rBad16 3 14 else bif !depB (byN s 2) (byN s 16) then rBad16 3 16 else bif byN s 17 / 64 != 0 then rBad16 3 17 else bif !alpB (byN s 16) (bits .and .i64 (byN s 17) 15) then rBad16 2 17 else rHead16 s) := by
  have : rRes16 s = resOf (chkS s).first (rHead16 s) := by unfold rRes16 resOf; rw [if_neg h]
  rw [this]
  simp only [Chk.first, Chk.from, resOf_if]
  rfl
theorem le_word' (s : ByteArray) (a b : Nat) (V : Int) (w : World) (hb : b = a + 2) (h : a + 2 ≤ s.size) (hV : wordN s a = V) : Calls Try.prog 41 #[.string (s.extract a b)] w fun e w' => e = .returned (.int .i64 V) ∧ w' = w := by
  subst hb; exact le_word s a V w h hV
end Go.Proofs.Ytlhcjnjajkfahaa

/- tgahead.head, walked. -/
namespace Go.Proofs.Ytlhcjnjajkfahaa
open Go.RowKit
set_option linter.unusedVariables false
set_option linter.unusedSimpArgs false
def RA (w : World) (L : List Value) (e : Ending) (w' : World) : Prop := e = .returned (.agg L.toArray) ∧ Below w.heap.size w w'
theorem bit16 (f : Int) (h0 : 0 ≤ f) (h1 : f < 256) : (bits .and .u8 f 16 != 0) = (f / 16 % 2 == 1) := by
  obtain ⟨k, rfl⟩ := Int.eq_ofNat_of_zero_le h0
  exact (by decide +kernel : ∀ k : Fin 256, (bits .and .u8 ((k.val : Nat) : Int) 16 != 0) = (((k.val : Nat) : Int) / 16 % 2 == 1)) ⟨k, by omega⟩
theorem bit32 (f : Int) (h0 : 0 ≤ f) (h1 : f < 256) : (bits .and .u8 f 32 != 0) = (f / 32 % 2 == 1) := by
  obtain ⟨k, rfl⟩ := Int.eq_ofNat_of_zero_le h0
  exact (by decide +kernel : ∀ k : Fin 256, (bits .and .u8 ((k.val : Nat) : Int) 32 != 0) = (((k.val : Nat) : Int) / 32 % 2 == 1)) ⟨k, by omega⟩
def headL (s : ByteArray) : List Value :=
  [.int .i64 (byN s 0), .bool (byN s 1 == 1), .int .i64 (byN s 2), .int .i64 (if (byN s 1 == 1) = true then wordN s 3 else 0), .int .i64 (if (byN s 1 == 1) = true then wordN s 5 else 0), .int .i64 (if (byN s 1 == 1) = true then byN s 7 else 0),
    .int .i64 (wordN s 12), .int .i64 (wordN s 14), .int .i64 (byN s 16), .int .i64 (byN s 17 % 16), .bool (byN s 17 / 16 % 2 == 1), .bool (byN s 17 / 32 % 2 == 1)]
end Go.Proofs.Ytlhcjnjajkfahaa

/- tgahead.Read, walked. -/
namespace Go.Proofs.Ytlhcjnjajkfahaa
open Go.RowKit
set_option linter.unusedVariables false
set_option linter.unusedSimpArgs false
theorem Stored.chg {S : Nat → Prop} {a w w2 : World} {b o : Nat} {vs : List Value} (hst : Stored w b o vs w2) (h : Chg S a w) (hb : a.heap.size ≤ b) : Chg S a w2 := by
  rw [show w2 = _ from hst]; clear hst
  induction vs generalizing w o with
  | nil => exact h
  | cons v r ih => rw [World.setCells]; exact ih (h.set _ _ (Or.inr hb))
theorem Pair.into {w w2 : World} {X b o : Nat} {vs : List Value} {x : Sr} {l : Led} (h : Pair w X x l) (hst : Stored w b o vs w2) (h1 : X ≠ b) (h2 : x.L ≠ b) : Pair w2 X x l :=
  ⟨⟨hst.oth h.src.obj h1, h.src.ok, h.src.ne⟩, ⟨hst.oth h.led.obj h2, h.led.ok⟩⟩
theorem Pair.upon {B : Nat} {w w' : World} {X : Nat} {x : Sr} {l : Led} (h : Pair w X x l) (hb : Below B w w') (h1 : X < B) (h2 : x.L < B) : Pair w' X x l := ⟨⟨h.src.obj.below hb h1, h.src.ok, h.src.ne⟩, ⟨h.led.obj.below hb h2, h.led.ok⟩⟩
def faultL (x : Sr) (l : Led) (f : Int) : List Value := if l.br = true then [.int .i64 4, .int .i64 f, .int .i64 x.p] else [.int .i64 1, .int .i64 f, .int .i64 x.e]
theorem faultL_eq (x : Sr) (l : Led) (f : Int) : x.fault l f = .agg (faultL x l f).toArray := by unfold Sr.fault faultL; split <;> rfl
theorem faultL_len (x : Sr) (l : Led) (f : Int) : (faultL x l f).length = 3 := by unfold faultL; split <;> rfl
theorem faultL_one (x : Sr) (l : Led) (f : Int) : (faultL x l f).all (·.oneCell') = true := by unfold faultL; split <;> rfl
def zero12 : List Value := [.int .i64 0, .bool false, .int .i64 0, .int .i64 0, .int .i64 0, .int .i64 0, .int .i64 0, .int .i64 0, .int .i64 0, .int .i64 0, .bool false, .bool false]
def tRead (x : Sr) (l : Led) : List Value × List Value :=
  if (x.next l 18).2.2 = true then (match (chkS (x.next l 18).2.1).first with | some p => (zero12, [.int .i64 p.1, .int .i64 2, .int .i64 (x.p + p.2)]) | none => (headL (x.next l 18).2.1, [.int .i64 0, .int .i64 0, .int .i64 0]))
  else (zero12, faultL (x.next l 18).1.1 (x.next l 18).1.2 2)
def TReadPost (w : World) (X : Nat) (x : Sr) (l : Led) (e : Ending) (w' : World) : Prop :=
  e = .returned (.tuple #[.agg (tRead x l).1.toArray, .agg (tRead x l).2.toArray]) ∧ Pair w' X (x.next l 18).1.1 (x.next l 18).1.2 ∧ Chg (two X x) w w'
theorem next_L (x : Sr) (l : Led) (n : Int) : (x.next l n).1.1.L = x.L := by unfold Sr.next; split <;> rfl
theorem headL_len (s : ByteArray) : (headL s).length = 12 := rfl
theorem headL_one (s : ByteArray) : (headL s).all (·.oneCell') = true := rfl
theorem fault_c (X : Nat) (x : Sr) (l : Led) (f : Int) (w : World) (F : List Value) (hF : faultL x l f = F) (h : Pair w X x l) : Calls Try.prog 75 #[.pointer (some ⟨X, 0, none⟩), .int .i64 f] w (RA w F) := by
  subst hF
  exact (fault_any X x l f w h).mono fun e w' hh => ⟨hh.1.trans (by rw [faultL_eq]), hh.2⟩
theorem checks_d (s : ByteArray) (c : Chk) (w : World) (h : s.size = 18) (hc : chkS s = c) : Calls Try.prog 93 #[.string s] w fun e w' => ∃ B T, e = .returned (.slice (some ⟨B, 0, none⟩) 12 12) ∧ Obj1 w' B c.arr T ∧ w.heap.size ≤ B ∧ Below w.heap.size w w' := by
  subst hc; exact checks_any s w h
end Go.Proofs.Ytlhcjnjajkfahaa

/- The law SrcWindows, walked. -/
namespace Go.Proofs.Ytlhcjnjajkfahaa
open Go.RowKit
set_option linter.unusedVariables false
def Yes5 (w : World) (e : Ending) (w' : World) : Prop := e = .returned (.bool true) ∧ Below w.heap.size w w'
/-- A ledger and a source over a text, made anew. -/
theorem SrcAt.mk' {w : World} {X L : Nat} {s : ByteArray} {b e p : Nat} (h : Obj1 w X (Sr.cells ⟨L, s, b, e, p⟩) 99) (h1 : b ≤ p) (h2 : p ≤ e) (h3 : e ≤ s.size) (h4 : s.size ≤ 9223372036854775807) (hn : X ≠ L) : SrcAt w X ⟨L, s, b, e, p⟩ := ⟨h, ⟨h1, h2, h3, h4⟩, hn⟩
def Fresh (X : Nat) (w w' : World) : Prop := w.heap.size ≤ X ∧ X < w'.heap.size
theorem chg_none {w w' : World} (h : Chg (fun _ => False) w w') : Below w.heap.size w w' := h.below (Nat.le_refl _) (fun _ h => h.elim)
theorem chg_two {W w w' : World} {X : Nat} {x : Sr} (hW : Below W.heap.size W w) (h : Chg (two X x) w w') (h1 : W.heap.size ≤ X) (h2 : W.heap.size ≤ x.L) : Below W.heap.size W w' :=
  bchg hW h hW.size (fun k hk => by rcases hk with rfl | rfl; · exact h1
                                    · exact h2)
def b123 : ByteArray := ⟨#[1, 2, 3]⟩
def l10 (k : Int) : Led := { Led.new 0 0 0 10 with st := k }
theorem ex1 (L : Nat) : Sr.next ⟨L, b123, 0, 3, 0⟩ (l10 0) 2 = ((⟨L, b123, 0, 3, 2⟩, l10 1), (⟨#[1, 2]⟩, true)) := rfl
theorem ex2 (L : Nat) : Sr.next ⟨L, b123, 0, 3, 2⟩ (l10 1) 2 = ((⟨L, b123, 0, 3, 2⟩, l10 2), (ByteArray.empty, false)) := rfl
theorem ex3 (L : Nat) : Sr.next ⟨L, b123, 0, 3, 2⟩ (l10 2) 1 = ((⟨L, b123, 0, 3, 3⟩, l10 3), (⟨#[3]⟩, true)) := rfl
theorem num12 : numB ⟨#[1, 2]⟩ true = 513 := by decide +kernel
theorem num0 : numB ByteArray.empty true = 0 := by decide +kernel
theorem num3 : numB ⟨#[3]⟩ true = 3 := by decide +kernel
theorem num_at {w : World} {X : Nat} {x y : Sr} {l m : Led} {n : Int} {low ok : Bool} {s : ByteArray} {v : Int} {e : Ending} {w' : World} (h : NumOf w X x l n low e w') (hr : x.next l n = ((y, m), (s, ok))) (hv : numB s low = v) : NumPost w X x y m v ok e w' := by
  unfold NumOf at h; rw [hr] at h; subst hv; exact h
theorem lnew_k (k : Int) (w : World) (hk : k = 9 ∨ k = 10 ∨ k = 100 ∨ k = 1000) : Calls Try.prog 69 #[.agg #[.int .i64 0, .int .i64 0, .int .i64 0, .int .i64 k]] w fun e w' =>
      ∃ L, e = .returned (.pointer (some ⟨L, 0, none⟩)) ∧ LedAt w' L (Led.new 0 0 0 k) ∧ w.heap.size ≤ L ∧ Chg (fun _ => False) w w' := lnew_any 0 0 0 k w (by decide) (by omega)
/-! ### SrcWindows -/
theorem snew_at (L : Nat) (s : ByteArray) (l : Led) (w : World) (hs : s.size ≤ 9223372036854775807) (hL : LedAt w L l) : Calls Try.prog 68 #[.pointer (some ⟨L, 0, none⟩), .string s] w fun e w' =>
      ∃ X, e = .returned (.tuple #[.pointer (some ⟨X, 0, none⟩), .int .i64 0]) ∧ Pair w' X ⟨L, s, 0, s.size, 0⟩ l ∧ w.heap.size ≤ X ∧ Chg (fun _ => False) w w' :=
  (snew_any L s w hs hL.lt).mono fun e w' ⟨X, h1, h2, h3, h4⟩ => ⟨X, h1, ⟨h2, hL.chg h4 (fun h => h)⟩, h3, h4⟩
end Go.Proofs.Ytlhcjnjajkfahaa

/- Small facts, further: a slice that the call itself appends to, byte by byte or number by number; strings made of bytes. No program in sight. -/
namespace Go.Proofs.Ytlhcjnjajkfahaa
open Go.RowKit
set_option linter.unusedVariables false
/-- The string of some bytes. -/
def strOf (ns : List Int) : ByteArray := ns.foldl (fun r n => r.push (UInt8.ofNat n.toNat)) ByteArray.empty
/-- Append of one element to a slice of the call's own: the element was laid in a block of its own just before. -/
theorem app1 {P : Program} {ops : Array Oper} {rest : List Oper} {o : Oper} {a : Act} {Q : Exit → Act → World → Prop} (hgd : o.guard = none) (s x : Operand) (t : TypeId)
    (ho : o.op = .call { callee := .builtin .append, args := #[s, x], argTypes := #[t, t] })
    (base : Nat) (e : TypeId) (z : Value) (bytes : Nat) (ht : P.underlying t = some (.slice e)) (hi : (P.info? e).map (fun i => (i.zero, i.size, i.bytes)) = some (some z, 1, bytes)) (hz1 : z.cells.size = 1)
    (v : Value) (n : Nat) (xs : List Value) (hs : a.eval s = v) {wr : World} (hown : wr.ownsRow base e 1 v n xs) (X : Value) (hX : X.oneCell' = true) (T : TypeId)
    (hx : a.eval x = .slice (some ⟨wr.heap.size, 0, none⟩) 1 1) (hn : (n + 1) * bytes ≤ 140737488355328) (hn2 : n + 1 ≤ maxLen) (hbase : base ≤ wr.heap.size)
    (h : ∀ v' w', w'.ownsRow base e 1 v' (n + 1) (xs ++ [X]) → (∀ W, Below base W wr → Below base W w') → base ≤ w'.heap.size → wpList P ops Q rest (a.put o.dst v') w') :
    wpList P ops Q (o :: rest) a (wr.alloc (.cells #[X] T)) := by
  obtain ⟨i, i1, i2, i3, i4⟩ := info_parts hi
  have hz : wr.heap.size < (wr.alloc (.cells #[X] T)).heap.size := by simp
  refine wpList_append_own _ hgd s x t ho base e i z 1 bytes ht i1 i2 i3 i4 hz1 (by decide) v n xs hs (hown.alloc _) ⟨wr.heap.size, 0, none⟩ 1 1 [X] hx rfl ?_ ?_ hn2 hn (by omega) ?_
  · intro j u hj
    match j, hj with
    | 0, hj => simp at hj; subst hj; simp [Addr.add, go_sem]
  · intro u hu; simp at hu; subst hu; exact hX
  · intro v' w' hown' hgrow _
    refine h v' w' hown' (fun W hB => ?_) (Nat.le_trans (by omega) hgrow.size)
    refine (hB.alloc hbase _).grown hgrow (by omega) ?_
    intro k hk
    obtain ⟨_, h2⟩ := hown
    rcases h2 with ⟨rfl, _⟩ | ⟨g, cap, cur, rfl, hg, _⟩
    · simp [Value.ownBlock] at hk
    · simp [Value.ownBlock] at hk; omega
/-- The j-th cell of a slice of the call's own. -/
theorem owns_cell {w : World} {base e g n cap : Nat} {xs : List Value} (h : w.ownsRow base e 1 (.slice (some ⟨g, 0, none⟩) n cap) n xs) (j : Nat) (v : Value) (hv : xs[j]? = some v) : w.cell? ⟨g, j, none⟩ = some v := by
  obtain ⟨hl, h2⟩ := h
  rcases h2 with ⟨h2, _⟩ | ⟨g', cap', cur, hv', hg, hh, hn, hc, hs, ht⟩
  · simp at h2
  · injection hv' with hv'; injection hv' with hv'; injection hv' with hv'; subst hv'
    have hj : j < n := by rw [← Nat.mul_one n, ← hl]; exact (List.getElem?_eq_some_iff.1 hv).1
    rw [← ht, List.getElem?_take, if_pos (by omega)] at hv
    simp [World.cell?, hh]; simpa using hv
theorem owns_froz {w : World} {base e g n cap : Nat} {xs : List Value} (h : w.ownsRow base e 1 (.slice (some ⟨g, 0, none⟩) n cap) n xs) (j : Nat) : w.frozen? ⟨g, j, none⟩ = false := by
  obtain ⟨hl, h2⟩ := h
  rcases h2 with ⟨h2, _⟩ | ⟨g', cap', cur, hv', hg, hh, hn, hc, hs, ht⟩
  · simp at h2
  · injection hv' with hv'; injection hv' with hv'; injection hv' with hv'; subst hv'
    simp [World.frozen?, hh]
theorem owns_form {w : World} {base e n : Nat} {v : Value} {xs : List Value} (h : w.ownsRow base e 1 v n xs) (hn : 0 < n) : ∃ g cap, v = .slice (some ⟨g, 0, none⟩) n cap ∧ base ≤ g ∧ g < w.heap.size ∧ n ≤ cap ∧ cap ≤ maxLen := by
  obtain ⟨hl, h2⟩ := h
  rcases h2 with ⟨_, h2⟩ | ⟨g', cap', cur, hv', hg, hh, hn, hc, hs, ht⟩
  · omega
  · exact ⟨g', cap', hv', hg, (Array.getElem?_eq_some_iff.1 hh).1, hn, hc⟩
theorem owns_len {w : World} {base e n : Nat} {v : Value} {xs : List Value} (h : w.ownsRow base e 1 v n xs) : xs.length = n := by have := h.1; omega
/-- A store into a slice of the call's own. -/
theorem owns_set {w : World} {base e g n cap : Nat} {xs : List Value} (h : w.ownsRow base e 1 (.slice (some ⟨g, 0, none⟩) n cap) n xs) (j : Nat) (hj : j < n) (X : Value) :
    (w.setCell ⟨g, j, none⟩ X).ownsRow base e 1 (.slice (some ⟨g, 0, none⟩) n cap) n (xs.set j X) := by
  obtain ⟨hl, h2⟩ := h
  refine ⟨by simpa using hl, ?_⟩
  rcases h2 with ⟨h2, _⟩ | ⟨g', cap', cur, hv', hg, hh, hn, hc, hs, ht⟩
  · simp at h2
  · injection hv' with hv' h1 h2; injection hv' with hv'; injection hv' with hv'; subst hv'; subst h2
    refine Or.inr ⟨g, cap, cur.setIfInBounds j X, rfl, hg, ?_, hn, hc, by simpa using hs, ?_⟩
    · simp [World.setCell, Array.getElem?_modify, hh]
    · rw [← ht]; simp [List.take_set]
/-- A slice of bytes of the call's own as a string. -/
theorem owns_string {P : Program} {w : World} {base e n : Nat} {v : Value} {ns : List Int} (h : w.ownsRow base e 1 v n (ns.map (Value.int .u8))) (src dst e' : TypeId)
    (hs : P.underlying src = some (.slice e')) (he : P.underlying e' = some (.int .u8)) (hd : P.underlying dst = some .string) : (convert src dst v).run P w = .ok (.string (strOf ns)) w := by
  have hl := owns_len h
  simp at hl
  by_cases h0 : n = 0
  · subst h0
    obtain rfl : ns = [] := List.length_eq_zero_iff.1 hl
    obtain ⟨_, h2⟩ := h
    rcases h2 with ⟨rfl, _⟩ | ⟨g, cap, cur, rfl, hg, hh, _⟩
    · rw [run_convert_bytes_string w src dst e' none 0 0 hs he hd]; rfl
    · rw [run_convert_bytes_string w src dst e' _ 0 cap hs he hd]
      exact run_bytesToString w _ 0 cap [] (by rfl)
  · obtain ⟨g, cap, rfl, _⟩ := owns_form h (by omega)
    rw [run_convert_bytes_string w src dst e' _ n cap hs he hd]
    refine run_bytesToString w _ n cap ns ?_
    have := run_loadCells_list (P := P) w ⟨g, 0, none⟩ (ns.map (Value.int .u8)) (fun j v hv => by rw [Addr.add_mid, Nat.zero_add]; exact owns_cell h j v hv)
    rw [List.length_map, hl] at this; exact this
end Go.Proofs.Ytlhcjnjajkfahaa

/- The law SrcNumbers, walked. -/
namespace Go.Proofs.Ytlhcjnjajkfahaa
open Go.RowKit
set_option linter.unusedVariables false
theorem rsigned_any (s : ByteArray) (w : World) (hs : s.size ≤ 4) : Calls Try.prog 43 #[.string s] w fun e w' => e = .returned (.int .i64 (signed (loK s s.size))) ∧ w = w' := by
  have hb := loK_bd s s.size
  have hp := pow_le' (show 8 * s.size ≤ 32 by omega)
  have h32 : (2 : Int) ^ 32 = 4294967296 := by decide
  have HL := Lib.hid (fun w0 => rle_any s w0 hs)
  unfold signed
  obtain ⟨v, hv⟩ : ∃ v, loK s s.size = v := ⟨_, rfl⟩
  rw [hv] at HL hb ⊢
  have v0 : 0 ≤ v := hb.1
  have v1 : v < 4294967296 := by omega
  clear hb hp h32 hv hs
  by_cases h : 2147483648 ≤ v
  · rw [if_pos h]
    go_enter Try.func43, Try.ntmps43
    go_wp2_with (go_at_call 41; (with_reducible refine (HL.out _).mono ?_); rintro e w1 ⟨rfl, rfl⟩)
    go_ret
    exact ⟨rfl, rfl⟩
  · rw [if_neg h]
    have h' : v < 2147483648 := by omega
    go_enter Try.func43, Try.ntmps43
    go_wp2_with (go_at_call 41; (with_reducible refine (HL.out _).mono ?_); rintro e w1 ⟨rfl, rfl⟩)
    go_ret
    exact ⟨rfl, rfl⟩
def l100 (k : Int) : Led := { Led.new 0 0 0 100 with st := k }
theorem nx100 (L : Nat) (s : ByteArray) (p n : Nat) (z k : Int) (h : p + n ≤ 4) (hz : z = n) (hk : k < 100) : Sr.next ⟨L, s, 0, 4, p⟩ (l100 k) z = ((⟨L, s, 0, 4, p + n⟩, l100 (k + 1)), (s.extract p (p + n), true)) := by
  subst hz
  have hw : (l100 k).work 1 = (l100 (k + 1), true) := by
    unfold Led.work
    rw [if_neg (by simp [l100, Led.new]), if_neg (by show ¬ ((1 : Int) < 0 ∨ 100 - k < 1); omega)]
    rfl
  unfold Sr.next
  rw [hw, if_pos ⟨rfl, by omega, by simp only; omega⟩]
  simp
theorem sk100 (L : Nat) (s : ByteArray) (p n : Nat) (z : Int) (h : n ≤ 4) (hz : z = n) : Sr.seek ⟨L, s, 0, 4, p⟩ z = (⟨L, s, 0, 4, n⟩, true) := by
  subst hz
  unfold Sr.seek
  rw [if_neg (by simp only; omega)]
  simp
theorem seek_at {w : World} {X : Nat} {x y z : Sr} {l : Led} {ok ok' : Bool} {e : Ending} {w' : World} (h : BoolPost w X x y l ok e w') (hy : (y, ok) = (z, ok')) : BoolPost w X x z l ok' e w' := by
  injection hy with h1 h2; subst h1 h2; exact h
theorem str4 (a b c d : Int) (w : World) (T src dst e' : TypeId) (hs : Try.prog.underlying src = some (.slice e')) (he : Try.prog.underlying e' = some (.int .u8)) (hd : Try.prog.underlying dst = some .string) :
    (convert src dst (.slice (some ⟨w.heap.size, 0, none⟩) 4 4)).run Try.prog (w.alloc (.cells #[.int .u8 a, .int .u8 b, .int .u8 c, .int .u8 d] T)) = .ok (.string (strOf [a, b, c, d])) (w.alloc (.cells #[.int .u8 a, .int .u8 b, .int .u8 c, .int .u8 d] T)) := by
  rw [run_convert_bytes_string _ src dst e' _ 4 4 hs he hd]
  refine run_bytesToString _ _ 4 4 [a, b, c, d] ?_
  have := run_loadCells_list (P := Try.prog) (w.alloc (.cells #[.int .u8 a, .int .u8 b, .int .u8 c, .int .u8 d] T)) ⟨w.heap.size, 0, none⟩ ([a, b, c, d].map (Value.int .u8)) (fun j v hv => by
    rw [Addr.add_mid, Nat.zero_add]
    rcases (show j = 0 ∨ j = 1 ∨ j = 2 ∨ j = 3 by have := (List.getElem?_eq_some_iff.1 hv).1; simp at this; omega) with rfl | rfl | rfl | rfl <;> simp [go_sem] at hv ⊢ <;> exact hv)
  exact this
theorem str4_size (a b c d : Int) : (strOf [a, b, c, d]).size = 4 := rfl
end Go.Proofs.Ytlhcjnjajkfahaa

/- The chapter's example of layer 16, walked. -/
namespace Go.Proofs.Ytlhcjnjajkfahaa
open Go.RowKit
set_option linter.unusedVariables false
set_option linter.unusedSimpArgs false
theorem conv_str (w : World) (B n c : Nat) (l : List Int) (hn : l.length = n) (hc : w.rangeAt B 0 (l.map (Value.int .u8))) (src dst e' : TypeId) (hs : Try.prog.underlying src = some (.slice e')) (he : Try.prog.underlying e' = some (.int .u8)) (hd : Try.prog.underlying dst = some .string) :
    (convert src dst (.slice (some ⟨B, 0, none⟩) n c)).run Try.prog w = .ok (.string (strOf l)) w := by
  subst hn
  rw [run_convert_bytes_string _ src dst e' _ l.length c hs he hd]
  refine run_bytesToString _ _ l.length c l ?_
  have := run_loadCells_list (P := Try.prog) w ⟨B, 0, none⟩ (l.map (Value.int .u8)) (fun j v hv => by
    rw [Addr.add_mid]; exact hc j v hv)
  simpa using this
def z18 : ByteArray := strOf (List.replicate 18 0)
theorem z18_size : z18.size = 18 := rfl
theorem mk18 (w : World) : (Instr.makeSlice 72 (.int .i64 18) (.int .i64 18)).run Try.prog w = .ok (.slice (some ⟨w.heap.size, 0, none⟩) 18 18) (w.alloc (.cells #[.int .u8 0, .int .u8 0, .int .u8 0, .int .u8 0, .int .u8 0, .int .u8 0, .int .u8 0, .int .u8 0, .int .u8 0, .int .u8 0, .int .u8 0, .int .u8 0, .int .u8 0, .int .u8 0, .int .u8 0, .int .u8 0, .int .u8 0, .int .u8 0] 5)) := by kernel_rfl
theorem snew_c7 (L : Nat) (s : ByteArray) (l : Led) (w : World) (hs : s.size ≤ 9223372036854775807) (hL : LedAt w L l) : Calls Try.prog 68 #[.pointer (some ⟨L, 0, none⟩), .string s] w fun e w' =>
      ∃ X, e = .returned (.tuple #[.pointer (some ⟨X, 0, none⟩), .int .i64 0]) ∧ Pair w' X ⟨L, s, 0, s.size, 0⟩ l ∧ w.heap.size ≤ X ∧ Below w.heap.size w w' :=
  (snew_at L s l w hs hL).mono fun e w' ⟨X, h1, h2, h3, h4⟩ => ⟨X, h1, h2, h3, chg_none h4⟩
theorem conv18 (w : World) (B : Nat) {T : TypeId} (h : Obj1 w B #[.int .u8 0, .int .u8 0, .int .u8 0, .int .u8 0, .int .u8 0, .int .u8 0, .int .u8 0, .int .u8 0, .int .u8 0, .int .u8 0, .int .u8 0, .int .u8 0, .int .u8 0, .int .u8 0, .int .u8 0, .int .u8 0, .int .u8 0, .int .u8 0] T) : (convert 72 9 (.slice (some ⟨B, 0, none⟩) 18 18)).run Try.prog w = .ok (.string z18) w :=
  conv_str w B 18 18 (List.replicate 18 0) rfl (Obj1.range0 (cs := (List.replicate 18 0).map (Value.int .u8)) h) _ _ _ Try.underlying72 Try.underlying5 Try.underlying9
theorem tr18 (L : Nat) : tRead ⟨L, z18, 0, 18, 0⟩ (Led.new 0 0 0 9) = (zero12, [.int .i64 3, .int .i64 2, .int .i64 2]) := by kernel_rfl
end Go.Proofs.Ytlhcjnjajkfahaa

/- The law TgaheadReads: its comparison, walked. -/
namespace Go.Proofs.Ytlhcjnjajkfahaa
open Go.RowKit
set_option linter.unusedVariables false
set_option linter.unusedSimpArgs false
theorem Chk.none_is (c : Chk) : ∀ (n i : Nat), c.from n i = none → c.isFrom n i = true
  | 0, _, _ => rfl
  | n + 1, i, h => by
    unfold Chk.from at h
    unfold Chk.isFrom
    cases hb : (c.row i).1 with
    | true => rw [hb, if_pos rfl] at h; cases h
    | false => rw [hb, if_neg (by decide)] at h; simpa using c.none_is n (i + 1) h
theorem Chk.row_kind (c : Chk) (i : Nat) (h : i < 12) : (c.row i).2.1 = 2 ∨ (c.row i).2.1 = 3 := by
  match i, h with
  | 0, _ | 1, _ | 2, _ | 3, _ | 4, _ | 5, _ | 6, _ | 7, _ | 8, _ | 9, _ | 10, _ | 11, _ => simp [Chk.row]
theorem Chk.row_place (c : Chk) (i : Nat) (h : i < 12) : 0 ≤ (c.row i).2.2.1 ∧ (c.row i).2.2.1 ≤ 17 := by
  match i, h with
  | 0, _ | 1, _ | 2, _ | 3, _ | 4, _ | 5, _ | 6, _ | 7, _ | 8, _ | 9, _ | 10, _ | 11, _ => exact ⟨by simp [Chk.row], by simp [Chk.row]⟩
theorem Chk.some_from (c : Chk) : ∀ (n i : Nat), n + i = 12 → ∀ p, c.from n i = some p → (p.1 = 2 ∨ p.1 = 3) ∧ 0 ≤ p.2 ∧ p.2 ≤ 17
  | 0, _, _, p, h => by cases h
  | n + 1, i, hn, p, h => by
    unfold Chk.from at h
    cases hb : (c.row i).1 with
    | true =>
      rw [hb, if_pos rfl] at h
      injection h with h; subst h
      exact ⟨c.row_kind i (by omega), c.row_place i (by omega)⟩
    | false => rw [hb, if_neg (by decide)] at h; exact c.some_from n (i + 1) (by omega) p h
theorem ext_append (a s : ByteArray) (n : Nat) : (a ++ s).extract a.size (a.size + n) = s.extract 0 n := by
  apply ByteArray.ext
  simp [ByteArray.data_extract, ByteArray.data_append]
theorem headL_ext (s : ByteArray) (h : 18 ≤ s.size) : headL (s.extract 0 18) = headL s := by
  have e : ∀ i, i < 18 → byN (s.extract 0 18) i = byN s i := fun i hi => by rw [byN_ext s 0 18 i (by omega) h, Nat.zero_add]
  unfold headL wordN
  rw [e 0 (by omega), e 1 (by omega), e 2 (by omega), e 3 (by omega), e 7 (by omega), e 5 (by omega), e 12 (by omega), e 14 (by omega), e 16 (by omega), e 17 (by omega), e (3 + 1) (by omega), e (5 + 1) (by omega), e (12 + 1) (by omega), e (14 + 1) (by omega)]
/-- What is read, by both, of a text: a fault (and its place), or a head. -/
theorem read_cases (a s : ByteArray) (L : Nat) (hz : (a ++ s).size ≤ 9223372036854775807) : 
    (∃ k p : Int, (k = 1 ∨ k = 2 ∨ k = 3) ∧ 0 ≤ p ∧ p ≤ s.size + 17 ∧ tRead ⟨L, a ++ s, 0, (a ++ s).size, a.size⟩ (Led.new 0 0 0 9) = (zero12, [.int .i64 k, .int .i64 2, .int .i64 (a.size + p)]) ∧ rRes16 s = rBad16 k p) ∨
    (18 ≤ s.size ∧ isTga s = true ∧ tRead ⟨L, a ++ s, 0, (a ++ s).size, a.size⟩ (Led.new 0 0 0 9) = (headL s, [.int .i64 0, .int .i64 0, .int .i64 0]) ∧ rRes16 s = rHead16 s ∧ (Sr.next ⟨L, a ++ s, 0, (a ++ s).size, a.size⟩ (Led.new 0 0 0 9) 18).1.1.p = a.size + 18) := by
  have hsz : (a ++ s).size = a.size + s.size := ByteArray.size_append
  have hw : ((Led.new 0 0 0 9).work 1) = ({ Led.new 0 0 0 9 with st := 1 }, true) := rfl
  by_cases h : s.size < 18
  · left
    have hn : Sr.next ⟨L, a ++ s, 0, (a ++ s).size, a.size⟩ (Led.new 0 0 0 9) 18 = ((⟨L, a ++ s, 0, (a ++ s).size, a.size⟩, { Led.new 0 0 0 9 with st := 1 }), (ByteArray.empty, false)) := by
      unfold Sr.next; rw [hw, if_neg (by simp only; omega)]
    refine ⟨1, s.size, Or.inl rfl, by omega, by omega, ?_, by unfold rRes16; rw [if_pos h]⟩
    unfold tRead
    rw [hn]
    show (zero12, faultL _ _ 2) = _
    unfold faultL
    rw [if_neg (by exact Bool.false_ne_true)]
    simp only [hsz]
    rfl
  · have hn : Sr.next ⟨L, a ++ s, 0, (a ++ s).size, a.size⟩ (Led.new 0 0 0 9) 18 = ((⟨L, a ++ s, 0, (a ++ s).size, a.size + 18⟩, { Led.new 0 0 0 9 with st := 1 }), (s.extract 0 18, true)) := by
      unfold Sr.next; rw [hw, if_pos ⟨rfl, by omega, by simp only; omega⟩]
      simp only
      congr 2
      exact ext_append a s 18
    have hx := chkS_ext s (by omega)
    have hR : rRes16 s = match (chkS s).first with | some p => rBad16 p.1 p.2 | none => rHead16 s := by unfold rRes16; rw [if_neg h] <;> rfl
    unfold tRead
    rw [hn]
    simp only [if_true, hx]
    cases hf : (chkS s).first with
    | none =>
      right
      rw [hf] at hR
      refine ⟨by omega, ?_, ?_, hR, by first | trivial | rfl⟩
      · unfold isTga; rw [decide_eq_true (by omega : 18 ≤ s.size)]; exact (chkS s).none_is 12 0 hf
      · rw [headL_ext s (by omega)]
    | some p =>
      left
      rw [hf] at hR
      obtain ⟨h1, h2, h3⟩ := (chkS s).some_from 12 0 rfl p hf
      exact ⟨p.1, p.2, by omega, h2, by omega, rfl, hR⟩
/-- .. of an operation that is guarded, and wanted. -/
theorem load_og {P : Program} {ops : Array Oper} {rest : List Oper} {op : Oper} {a : Act} {w : World} {Q : Exit → Act → World → Prop} (hw : Region.wanted op (yielded ops a.tmps) = true) (ty : TypeId) (n : Nat) (x : Operand) (ho : op.op = .load ty x)
    (b : Nat) (YS : List Value) (hl : YS.length = n) (hx : a.eval x = .pointer (some ⟨b, 0, none⟩)) {T : TypeId} (hO : Obj1 w b YS.toArray T) {d : TypeDesc} (hu : P.underlying ty = some d) (hd : d.isRow = true) (hi : (P.info? ty).map (·.size) = some n)
    (h : wpList P ops Q rest (a.put op.dst (.agg YS.toArray)) w) : wpList P ops Q (op :: rest) a w := by
  rw [wpList, if_pos hw]
  exact Or.inl (wp_load_mid ty x ho b 0 hx YS d hO.range0 hu hd (by rw [hl]; exact hi) h)
end Go.Proofs.Ytlhcjnjajkfahaa

/- Parts of objects in memory, loaded and stored. No program in sight. -/
namespace Go.Proofs.Ytlhcjnjajkfahaa
open Go.RowKit
set_option linter.unusedVariables false
theorem Obj1.range {w : World} {b : Nat} {cs : Array Value} {T : TypeId} (h : Obj1 w b cs T) (o : Nat) (L : List Value) (hL : (cs.toList.drop o).take L.length = L) : w.rangeAt b o L := fun j v hv => by
  rw [h.cell]
  rw [← hL, List.getElem?_take] at hv
  split at hv
  · rw [List.getElem?_drop] at hv; simpa using hv
  · cases hv
/-- A struct that is a part of an object is loaded. -/
theorem load_ag {P : Program} {ops : Array Oper} {rest : List Oper} {op : Oper} {a : Act} {w : World} {Q : Exit → Act → World → Prop} (hw : Region.wanted op (yielded ops a.tmps) = true) (ty : TypeId) (x : Operand) (ho : op.op = .load ty x)
    (b o : Nat) (YS : List Value) (hx : a.eval x = .pointer (some ⟨b, o, none⟩)) {cs : Array Value} {T : TypeId} (hO : Obj1 w b cs T) (hL : (cs.toList.drop o).take YS.length = YS) {d : TypeDesc} (hu : P.underlying ty = some d) (hd : d.isRow = true) (hi : (P.info? ty).map (·.size) = some YS.length)
    (h : Unit → wpList P ops Q rest (a.put op.dst (.agg YS.toArray)) w) : wpList P ops Q (op :: rest) a w := by
  rw [wpList, if_pos hw]
  exact Or.inl (wp_load_mid ty x ho b o hx YS d (hO.range o YS hL) hu hd hi (h ()))
/-- An operation whose guard says no is passed over. -/
theorem skip_g {P : Program} {ops : Array Oper} {rest : List Oper} {op : Oper} {a : Act} {w : World} {Q : Exit → Act → World → Prop} {g : Nat × Bool} (hg : op.guard = some g) (hw : Region.wanted op (yielded ops a.tmps) = false) (h : Unit → wpList P ops Q rest (a.put op.dst undef) w) : wpList P ops Q (op :: rest) a w := by
  rw [wpList, if_neg (by simp [hw])]; exact h ()
/-- A struct is stored into a part of an object. -/
theorem store_a {P : Program} {ops : Array Oper} {rest : List Oper} {op : Oper} {a : Act} {w : World} {Q : Exit → Act → World → Prop} (hgd : op.guard = none) (ty : TypeId) (x y : Operand) (ho : op.op = .store ty x y)
    (b o : Nat) (YS : List Value) (h1 : YS.all (·.oneCell') = true) (hx : a.eval x = .pointer (some ⟨b, o, none⟩)) (hy : a.eval y = .agg YS.toArray) (hi : (P.info? ty).map (·.size) = some YS.length) {cs : Array Value} {T : TypeId} (hO : Obj1 w b cs T) (hs : o + YS.length ≤ cs.size)
    (h : ∀ w2, Stored w b o YS w2 → Obj1 w2 b (setL cs o YS) T → wpList P ops Q rest (a.put op.dst undef) w2) : wpList P ops Q (op :: rest) a w :=
  store_gen hgd ty x y ho b o YS.toArray hx hy (by have := hO.there o YS.length hs; simpa using this) (by rw [List.size_toArray]; exact hi) (by simpa using h1)
    fun w2 hst => h w2 (by simpa using hst) ((show Stored w b o YS w2 by simpa using hst).obj hO)
theorem load_u {P : Program} {ops : Array Oper} {rest : List Oper} {op : Oper} {a : Act} {w : World} {Q : Exit → Act → World → Prop} (hw : Region.wanted op (yielded ops a.tmps) = true) (ty : TypeId) (n : Nat) (x : Operand) (ho : op.op = .load ty x)
    (b : Nat) (YS : List Value) (hl : YS.length = n) (hx : a.eval x = .pointer (some ⟨b, 0, none⟩)) {T : TypeId} (hO : Obj1 w b YS.toArray T) {d : TypeDesc} (hu : P.underlying ty = some d) (hd : d.isRow = true) (hi : (P.info? ty).map (·.size) = some n)
    (h : Unit → wpList P ops Q rest (a.put op.dst (.agg YS.toArray)) w) : wpList P ops Q (op :: rest) a w := load_og hw ty n x ho b YS hl hx hO hu hd hi (h ())
theorem Obj1.cells {w : World} {b : Nat} {cs cs' : Array Value} {T : TypeId} (h : Obj1 w b cs T) (e : cs = cs') : Obj1 w b cs' T := e ▸ h
theorem Pair.alloc {w : World} {X : Nat} {x : Sr} {l : Led} (h : Pair w X x l) (o : Obj) : Pair (w.alloc o) X x l :=
  h.upon ((Below.refl w.heap.size w).alloc (Nat.le_refl _) o) h.src.lt h.led.lt
theorem Pair.drew1 {w : World} {X : Nat} {x : Sr} {l : Led} (h : Pair w X x l) : Pair w.drew X x l := ⟨⟨h.src.obj.drew, h.src.ok, h.src.ne⟩, ⟨h.led.obj.drew, h.led.ok⟩⟩
theorem Chg.setc {S : Nat → Prop} {a w : World} (h : Chg S a w) (b o : Nat) (v : Value) (hb : a.heap.size ≤ b) : Chg S a (w.setCell ⟨b, o, none⟩ v) := h.set _ v (Or.inr hb)
theorem Pair.setc {w : World} {X b o : Nat} {x : Sr} {l : Led} (h : Pair w X x l) (v : Value) (h1 : X ≠ b) (h2 : x.L ≠ b) : Pair (w.setCell ⟨b, o, none⟩ v) X x l :=
  h.into (b := b) (o := o) (vs := [v]) rfl h1 h2
end Go.Proofs.Ytlhcjnjajkfahaa

/- Rows of numbers as bytes: what dibrow.Pack computes. No program in sight. -/
namespace Go.Proofs.Ytlhcjnjajkfahaa
open Go.RowKit
/-- A byte of a number. -/
def byteAt (v : Int) (j : Nat) : Int := v / 2 ^ (8 * j) % 256
def bytesF (v : Int) : Nat → List Int
  | 0 => []
  | n + 1 => bytesF v n ++ [byteAt v n]
theorem bytesF_len (v : Int) (n : Nat) : (bytesF v n).length = n := by induction n with | zero => rfl | succ n ih => simp [bytesF, ih]
/-- The last byte, together with another one. -/
def orLast (xs : List Int) (y : Int) : List Int := xs.set (xs.length - 1) (bits .or .u8 (xs.getD (xs.length - 1) 0) y)
def packF (l : List Int) (d : Nat) : Nat → List Int
  | 0 => []
  | k + 1 => if 8 ≤ d then packF l d k ++ bytesF (l.getD k 0) (d / 8)
    else if k * d % 8 = 0 then packF l d k ++ [l.getD k 0 * 2 ^ (8 - d) % 256] else orLast (packF l d k) (l.getD k 0 * 2 ^ (8 - d - k * d % 8) % 256)
theorem packF_wide (l : List Int) (d k : Nat) (h : 8 ≤ d) : packF l d (k + 1) = packF l d k ++ bytesF (l.getD k 0) (d / 8) := by rw [packF, if_pos h]
theorem packF_new (l : List Int) (d k : Nat) (h : d < 8) (h2 : k * d % 8 = 0) : packF l d (k + 1) = packF l d k ++ [l.getD k 0 * 2 ^ (8 - d) % 256] := by rw [packF, if_neg (by omega), if_pos h2]
theorem packF_old (l : List Int) (d k : Nat) (h : d < 8) (h2 : k * d % 8 ≠ 0) : packF l d (k + 1) = orLast (packF l d k) (l.getD k 0 * 2 ^ (8 - d - k * d % 8) % 256) := by rw [packF, if_neg (by omega), if_neg h2]
theorem packF_len (l : List Int) (d k : Nat) (hd : d = 1 ∨ d = 4 ∨ d = 8 ∨ d = 16 ∨ d = 24 ∨ d = 32) : (packF l d k).length = (k * d + 7) / 8 := by
  induction k with
  | zero => simp [packF]
  | succ k ih =>
    by_cases h : 8 ≤ d
    · rw [packF_wide l d k h, List.length_append, bytesF_len, ih]
      rcases hd with rfl | rfl | rfl | rfl | rfl | rfl <;> omega
    · by_cases h2 : k * d % 8 = 0
      · rw [packF_new l d k (by omega) h2, List.length_append, ih, Nat.add_mul]; simp
        rcases hd with rfl | rfl | rfl | rfl | rfl | rfl <;> omega
      · rw [packF_old l d k (by omega) h2, orLast, List.length_set, ih, Nat.add_mul]
        rcases hd with rfl | rfl | rfl | rfl | rfl | rfl <;> omega
/-- Filled up with zeros to a multiple of four. -/
def padF (xs : List Int) : List Int := xs ++ List.replicate ((4 - xs.length % 4) % 4) 0
def slLen : Value → Nat
  | .slice _ n _ => n
  | _ => 0
theorem owns_shape {w : World} {base e n : Nat} {v : Value} {xs : List Value} (h : w.ownsRow base e 1 v n xs) : ∃ a cap, v = .slice a n cap := by
  obtain ⟨hl, h2⟩ := h
  rcases h2 with ⟨rfl, rfl⟩ | ⟨g', cap', cur, hv', hg, hh, hn, hc, hs, ht⟩
  · exact ⟨none, 0, rfl⟩
  · exact ⟨_, _, hv'⟩
theorem owns_eq {w : World} {base e n n' : Nat} {v : Value} {xs xs' : List Value} (h : w.ownsRow base e 1 v n xs) (hn : n = n') (hx : xs = xs') : w.ownsRow base e 1 v n' xs' := by subst hn hx; exact h
theorem bytesF_succ (v : Int) (n : Nat) : bytesF v (n + 1) = bytesF v n ++ [byteAt v n] := rfl
theorem pad_done (xs : List Int) (j : Nat) (hj : j ≤ (4 - xs.length % 4) % 4) (h : (xs.length + j) % 4 = 0) : xs ++ List.replicate j 0 = padF xs := by
  unfold padF
  rw [show j = (4 - xs.length % 4) % 4 by omega]
end Go.Proofs.Ytlhcjnjajkfahaa

/- Appends to slices of the call's own, beside other objects. No program in sight. -/
namespace Go.Proofs.Ytlhcjnjajkfahaa
open Go.RowKit
set_option linter.unusedVariables false
/-- Append of one element to a slice of the call's own; all other blocks stay. -/
theorem app1k {P : Program} {ops : Array Oper} {rest : List Oper} {o : Oper} {a : Act} {Q : Exit → Act → World → Prop} (hgd : o.guard = none) (s x : Operand) (t : TypeId)
    (ho : o.op = .call { callee := .builtin .append, args := #[s, x], argTypes := #[t, t] })
    (base : Nat) (e : TypeId) (z : Value) (bytes : Nat) (ht : P.underlying t = some (.slice e)) (hi : (P.info? e).map (fun i => (i.zero, i.size, i.bytes)) = some (some z, 1, bytes)) (hz1 : z.cells.size = 1)
    (v : Value) (n : Nat) (xs : List Value) (hs : a.eval s = v) {wr : World} (hown : wr.ownsRow base e 1 v n xs) (X : Value) (hX : X.oneCell' = true) (T : TypeId)
    (hx : a.eval x = .slice (some ⟨wr.heap.size, 0, none⟩) 1 1) (hn : (n + 1) * bytes ≤ 140737488355328) (hn2 : n + 1 ≤ maxLen) (hbase : base ≤ wr.heap.size)
    (h : ∀ v' w', w'.ownsRow base e 1 v' (n + 1) (xs ++ [X]) → Chg (fun k => v.ownBlock = some k) wr w' → (∀ g, v'.ownBlock = some g → v.ownBlock = some g ∨ wr.heap.size ≤ g) → base ≤ w'.heap.size → wpList P ops Q rest (a.put o.dst v') w') :
    wpList P ops Q (o :: rest) a (wr.alloc (.cells #[X] T)) := by
  obtain ⟨i, i1, i2, i3, i4⟩ := info_parts hi
  have hz : wr.heap.size < (wr.alloc (.cells #[X] T)).heap.size := by simp
  refine wpList_append_lies (w := wr.alloc (.cells #[X] T)) hgd s x t ho base e i z 1 bytes ht i1 i2 i3 i4 hz1 (by decide) v n xs hs (hown.alloc _) ⟨wr.heap.size, 0, none⟩ 1 1 [X] hx rfl ?_ ?_ (by decide) hn2 hn (by omega) _ rfl ?_
  · intro j u hj
    match j, hj with
    | 0, hj => simp at hj; subst hj; simp [Addr.add, go_sem]
  · intro u hu; simp at hu; subst hu; exact hX
  · intro g cap w' hown' hgrow hat hlt
    have hc : Chg (fun k => v.ownBlock = some k) wr w' :=
      ((Chg.refl _ wr).alloc (.cells #[X] T)).trans ⟨hgrow.os, hgrow.tape, hgrow.output, hgrow.size, fun k hk hn => hgrow.block k hk (fun e => hn e.symm)⟩
    refine h _ w' hown' hc ?_ (Nat.le_trans hbase hc.size)
    intro g' hg'
    have : g = g' := by simpa [Value.ownBlock] using hg'
    subst this
    rcases hat with hat | hat
    · exact Or.inl hat
    · exact Or.inr (by rw [hat]; simp)
theorem step_app1k {P : Program} {ops : Array Oper} {o : Oper} {a : Act} {K : Act → World → Prop} {Q : Exit → Act → World → Prop} {E : Prop} (hgd : o.guard = none) (s x : Operand) (t : TypeId)
    (ho : o.op = .call { callee := .builtin .append, args := #[s, x], argTypes := #[t, t] })
    (base : Nat) (e : TypeId) (z : Value) (bytes : Nat) (ht : P.underlying t = some (.slice e)) (hi : (P.info? e).map (fun i => (i.zero, i.size, i.bytes)) = some (some z, 1, bytes)) (hz1 : z.cells.size = 1)
    (v : Value) (n : Nat) (xs : List Value) (hs : a.eval s = v) {wr : World} (hown : wr.ownsRow base e 1 v n xs) (X : Value) (hX : X.oneCell' = true) (T : TypeId)
    (hx : a.eval x = .slice (some ⟨wr.heap.size, 0, none⟩) 1 1) (hn : (n + 1) * bytes ≤ 140737488355328) (hn2 : n + 1 ≤ maxLen) (hbase : base ≤ wr.heap.size)
    (h : ∀ g cap w', w'.ownsRow base e 1 (.slice (some ⟨g, 0, none⟩) (n + 1) cap) (n + 1) (xs ++ [X]) → Chg (fun k => v.ownBlock = some k) wr w' → (v.ownBlock = some g ∨ wr.heap.size ≤ g) → base ≤ w'.heap.size → K (a.put o.dst (.slice (some ⟨g, 0, none⟩) (n + 1) cap)) w') :
    if Region.wanted o (yielded ops a.tmps) = true then Oper.wp P o a (wr.alloc (.cells #[X] T)).drew K Q else E := by
  obtain ⟨i, i1, i2, i3, i4⟩ := info_parts hi
  have hz : wr.heap.size < (wr.alloc (.cells #[X] T)).heap.size := by simp
  refine step_append_lies (w := (wr.alloc (.cells #[X] T)).drew) hgd s x t ho base e i z 1 bytes ht i1 i2 i3 i4 hz1 (by decide) v n xs hs (show (wr.alloc (.cells #[X] T)).drew.ownsRow base e 1 v n xs from hown.alloc _) ⟨wr.heap.size, 0, none⟩ 1 1 [X] hx rfl ?_ ?_ (by decide) hn2 hn (show base ≤ (wr.alloc (.cells #[X] T)).drew.heap.size from Nat.le_trans hbase (Nat.le_of_lt hz)) _ rfl ?_
  · intro j u hj
    match j, hj with
    | 0, hj => simp at hj; subst hj; simp [Addr.add, go_sem]
  · intro u hu; simp at hu; subst hu; exact hX
  · intro g cap w' hown' hgrow hat hlt
    have hc : Chg (fun k => v.ownBlock = some k) wr w' :=
      ((Chg.refl _ wr).alloc (.cells #[X] T)).drew.trans ⟨hgrow.os, hgrow.tape, hgrow.output, hgrow.size, fun k hk hn => hgrow.block k hk (fun e => hn e.symm)⟩
    refine h _ _ w' hown' hc ?_ (Nat.le_trans hbase hc.size)
    rcases hat with hat | hat
    · exact Or.inl hat
    · exact Or.inr (by rw [hat]; show wr.heap.size ≤ (wr.alloc (.cells #[X] T)).heap.size; exact Nat.le_of_lt hz)
theorem owns_blk {w : World} {base e size n : Nat} {v : Value} {xs : List Value} (h : w.ownsRow base e size v n xs) {g : Nat} (hg : v.ownBlock = some g) : base ≤ g ∧ g < w.heap.size := by
  obtain ⟨h1, h2⟩ := h
  rcases h2 with ⟨rfl, _⟩ | ⟨g', cap, cur, rfl, hb, hg', _⟩
  · simp [Value.ownBlock] at hg
  · have : g' = g := by simpa [Value.ownBlock] using hg
    subst this
    exact ⟨hb, (Array.getElem?_eq_some_iff.1 hg').1⟩
theorem owns_set2 {w : World} {base e size n : Nat} {v : Value} {xs : List Value} (h : w.ownsRow base e size v n xs) {OB o : Nat} (u : Value) (hOB : OB < base) : (w.setCell ⟨OB, o, none⟩ u).ownsRow base e size v n xs := by
  obtain ⟨h1, h2⟩ := h
  refine ⟨h1, ?_⟩
  rcases h2 with h2 | ⟨g, cap, cur, rfl, hb, hg, rest⟩
  · exact Or.inl h2
  · exact Or.inr ⟨g, cap, cur, rfl, hb, Obj1.set_other (T := e) (cs := cur) hg ⟨OB, o, none⟩ u (by simp; omega), rest⟩
theorem Chg.after {S S' : Nat → Prop} {a b c : World} (h : Chg S a b) (k : Chg S' b c) (hS : ∀ n, n < a.heap.size → S' n → S n) : Chg S a c :=
  ⟨k.os.trans h.os, k.tape.trans h.tape, k.output.trans h.output, Nat.le_trans h.size k.size, fun n hn hs => (k.block n (Nat.lt_of_lt_of_le hn h.size) (fun h' => hs (hS n hn h'))).trans (h.block n hn hs)⟩
theorem owns_drew2 {w : World} {base e size n : Nat} {v : Value} {xs : List Value} (h : w.ownsRow base e size v n xs) : w.drew.ownsRow base e size v n xs := h
theorem not_own2 {v v' : Value} {n g2 : Nat} (h : ∀ g, v'.ownBlock = some g → v.ownBlock = some g ∨ n ≤ g) (hn : v.ownBlock ≠ some g2) (hg : g2 < n) : v'.ownBlock ≠ some g2 := by
  intro e
  rcases h g2 e with h | h
  · exact hn h
  · omega
/-- A struct is loaded off cells that came in. -/
theorem load_r {P : Program} {ops : Array Oper} {rest : List Oper} {op : Oper} {a : Act} {w : World} {Q : Exit → Act → World → Prop} (hgd : op.guard = none) (ty : TypeId) (x : Operand) (ho : op.op = .load ty x)
    (b o : Nat) (YS : List Value) (hx : a.eval x = .pointer (some ⟨b, o, none⟩)) (hR : w.rangeAt b o YS) {d : TypeDesc} (hu : P.underlying ty = some d) (hd : d.isRow = true) (hi : (P.info? ty).map (·.size) = some YS.length)
    (h : Unit → wpList P ops Q rest (a.put op.dst (.agg YS.toArray)) w) : wpList P ops Q (op :: rest) a w := wpList_load_mid hgd ty x ho b o hx YS d hR hu hd hi (h ())
theorem range_below {w w' : World} {B b o : Nat} {L : List Value} (h : w.rangeAt b o L) (hb : Below B w w') (hlt : b < B) : w'.rangeAt b o L := fun j v hv => (World.cell?_of_block (w := w) (hb.block b hlt)).trans (h j v hv)
end Go.Proofs.Ytlhcjnjajkfahaa

/- num.is, Mul, Ceil; math/bits.Mul64: walked. -/
namespace Go.Proofs.Ytlhcjnjajkfahaa
open Go.RowKit
set_option linter.unusedVariables false
set_option linter.unusedSimpArgs false
def isN (v : Int) : Bool := decide (0 ≤ v) && decide (v ≤ 4611686018427387904)
set_option maxRecDepth 100000 in
set_option maxHeartbeats 4000000 in
theorem is_any (L : List Int) (n B cap : Nat) (w : World) (hn : n = L.length) (h9 : n ≤ 100) (hR : w.rangeAt B 0 (L.map (.int .i64))) : Calls Try.prog 106 #[.slice (some ⟨B, 0, none⟩) n cap] w fun e w' => e = .returned (.bool (L.all isN)) ∧ w' = w := by
  obtain ⟨R, hRR⟩ : ∃ R, L.all isN = R := ⟨_, rfl⟩
  have HRR := Lib.hid hRR
  have HR := Lib.hid hR
  have HN := Lib.hid hn
  rw [hRR]
  clear hRR hR hn
  go_enter Try.func106, Try.ntmps106
  go_wp2
  go_loop [4, 7] (fun _ c => ∃ i : Nat, i ≤ n ∧ c = .int .i64 i ∧ (L.drop i).all isN = R) (fun _ c => n - (intOf c).toNat)
  case atStart => exact ⟨0, by omega, rfl, HRR.out⟩
  case round =>
    obtain ⟨i, hi, rfl, hf⟩ := hrel
    by_cases hlt : i < n
    rotate_left
    · have hge : n ≤ i := by omega
      have HF := Lib.hid (show R = true by rw [← hf, List.drop_of_length_le (by rw [← HN.out]; exact hge)]; rfl)
      clear hf
      go_wp2
      go_ret
      exact ⟨by rw [HF.out]; rfl, rfl⟩
    · have hlt2 : i < L.length := by rw [← HN.out]; exact hlt
      obtain ⟨v, hv⟩ : ∃ v, L[i] = v := ⟨_, rfl⟩
      have hd : L.drop i = v :: L.drop (i + 1) := by rw [List.drop_eq_getElem_cons hlt2, hv]
      have c0 : w.cell? ⟨B, i, none⟩ = some (.int .i64 v) := by have := HR.out i (.int .i64 v) (by rw [List.getElem?_map, List.getElem?_eq_getElem hlt2, hv]; rfl); rwa [Nat.zero_add] at this
      rw [hd, List.all_cons] at hf
      have hge : ¬ n ≤ i := by omega
      have HF := Lib.hid hf
      clear hd hv hf
      by_cases h1 : v < 0
      · have D1 : decide (v < 0) = true := decide_eq_true h1
        have E := Lib.hid (show R = false by rw [← HF.out, show isN v = false by unfold isN; rw [decide_eq_false (by omega)]; rfl]; rfl)
        clear h1
        go_wp2_with ((with_reducible refine skip_g rfl ?_ ?_); rfl; intro _)
        go_ret
        exact ⟨by rw [E.out]; rfl, rfl⟩
      · have D1 : decide (v < 0) = false := decide_eq_false h1
        by_cases h2 : v > 4611686018427387904
        · have D2 : decide (v > 4611686018427387904) = true := decide_eq_true h2
          have E := Lib.hid (show R = false by rw [← HF.out, show isN v = false by unfold isN; rw [decide_eq_false (show ¬ v ≤ 4611686018427387904 by omega)]; simp]; rfl)
          clear h1 h2
          go_wp2_with ((with_reducible refine skip_g rfl ?_ ?_); rfl; intro _)
          go_ret
          exact ⟨by rw [E.out]; rfl, rfl⟩
        · have D2 : decide (v > 4611686018427387904) = false := decide_eq_false h2
          have E := Lib.hid (show (L.drop (i + 1)).all isN = R by rw [← HF.out, show isN v = true by unfold isN; rw [decide_eq_true (by omega), decide_eq_true (by omega)]; rfl]; rfl)
          clear h1 h2
          go_wp2_with ((with_reducible refine skip_g rfl ?_ ?_); rfl; intro _)
          go_round
          case rel => exact ⟨i + 1, by omega, by go_num, E.out⟩
          case measure => simp [intOf]; omega
set_option maxHeartbeats 1000000 in
theorem mul64_any (x y : Nat) (hx : x < 18446744073709551616) (hy : y < 18446744073709551616) (w : World) :
    Calls Try.prog 122 #[.int .u64 x, .int .u64 y] w fun e w' => e = .returned (.tuple #[.int .u64 ((x * y / 18446744073709551616 : Nat) : Int), .int .u64 ((x * y % 18446744073709551616 : Nat) : Int)]) ∧ w' = w := by
  obtain ⟨bd, bt, bw, hhi⟩ := Lib.mul64_hi x y hx hy
  have ba := Lib.half_mul_le (a := x / 4294967296) (b := y / 4294967296) (by omega) (by omega)
  have bb := Lib.half_mul_le (a := x / 4294967296) (b := y % 4294967296) (by omega) (by omega)
  have bc := Lib.half_mul_le (a := x % 4294967296) (b := y / 4294967296) (by omega) (by omega)
  have ba' : x / 4294967296 * (y / 4294967296) < 18446744073709551616 := by omega
  have bb' : x / 4294967296 * (y % 4294967296) < 18446744073709551616 := by omega
  have bc' : x % 4294967296 * (y / 4294967296) < 18446744073709551616 := by omega
  have bh1 : x / 4294967296 * (y / 4294967296) + (x / 4294967296 * (y % 4294967296) + x % 4294967296 * (y % 4294967296) / 4294967296) / 4294967296 < 18446744073709551616 := by omega
  have bh : x / 4294967296 * (y / 4294967296) + (x / 4294967296 * (y % 4294967296) + x % 4294967296 * (y % 4294967296) / 4294967296) / 4294967296 + ((x / 4294967296 * (y % 4294967296) + x % 4294967296 * (y % 4294967296) / 4294967296) % 4294967296 + x % 4294967296 * (y / 4294967296)) / 4294967296 < 18446744073709551616 := by omega
  go_enter Try.func122, Try.ntmps122
  go_wp2
  simp only [Mul64.maskN x hx, Mul64.maskN y hy, Mul64.divN, Mul64.mulN, Mul64.addN, Mul64.wrapN _ bd, Mul64.wrapN _ bb', Mul64.wrapN _ bt, Mul64.maskN _ bt, Mul64.wrapN _ bc', Mul64.wrapN _ bw, Mul64.wrapN _ ba', Mul64.wrapN _ bh1, Mul64.wrapN _ bh, Mul64.wrapM (x * y)]
  rw [hhi]
  go_ret2
  exact ⟨rfl, rfl⟩
end Go.Proofs.Ytlhcjnjajkfahaa

/- icodir: the small functions. -/
namespace Go.Proofs.Ytlhcjnjajkfahaa
open Go.RowKit
set_option linter.unusedVariables false
set_option linter.unusedSimpArgs false
/-- k bytes from a place on, the lowest first. -/
def lowK (s : ByteArray) (a : Nat) : Nat → Int
  | 0 => 0
  | k + 1 => lowK s a k + byN s (a + k) * 2 ^ (8 * k)
theorem lowK_bd (s : ByteArray) (a k : Nat) : 0 ≤ lowK s a k ∧ lowK s a k < 2 ^ (8 * k) := by
  induction k with
  | zero => simp [lowK]
  | succ k ih =>
    have hb := byN_bd s (a + k)
    have hp := pow_pos' (8 * k)
    have h0 : 0 ≤ byN s (a + k) * 2 ^ (8 * k) := Int.mul_nonneg hb.1 (by omega)
    have h1 : byN s (a + k) * 2 ^ (8 * k) ≤ 255 * 2 ^ (8 * k) := Int.mul_le_mul_of_nonneg_right (by omega) (by omega)
    rw [pow8, lowK]; omega
theorem lowK_round (s : ByteArray) (a k : Nat) (h : k ≤ 3) : bits .or .i64 (lowK s a k) (wrap64 (wrap64 (byN s (a + k)) * 2 ^ (8 * k))) = lowK s a (k + 1) := by
  have hb := byN_bd s (a + k)
  have hl := lowK_bd s a k
  have hp := pow32 k h
  have h0 : 0 ≤ byN s (a + k) * 2 ^ (8 * k) := Int.mul_nonneg hb.1 (by omega)
  have h1 : byN s (a + k) * 2 ^ (8 * k) ≤ 255 * 2 ^ (8 * k) := Int.mul_le_mul_of_nonneg_right (by omega) (by omega)
  have h62 : (2 : Int) ^ 62 = 4611686018427387904 := by decide
  rw [IntWalk.wrap64_in (byN s (a + k)) (by omega), IntWalk.wrap64_in _ (by omega), or_low (8 * k) _ _ hl.1 hl.2 hb.1 (by omega)]
  rfl
/-- .. are those of a part of the text. -/
theorem lowK_lo (s : ByteArray) (a b k : Nat) (h : a + k ≤ b) (hb : b ≤ s.size) : loK (s.extract a b) k = lowK s a k := by
  induction k with
  | zero => rfl
  | succ k ih => rw [loK, lowK, ih (by omega), byN_ext s a b k (by omega) hb]
set_option maxRecDepth 100000 in
theorem low_any (s : ByteArray) (a n : Nat) (w : World) (hn : n ≤ 4) (h : a + n ≤ s.size) (hs : s.size ≤ 9223372036854775807) : Calls Try.prog 92 #[.string s, .int .i64 a, .int .i64 n] w fun e w' => e = .returned (.int .i64 (lowK s a n)) ∧ w' = w := by
  go_enter Try.func92, Try.ntmps92
  go_wp2
  go_loop [7, 8, 10] (fun v j i => ∃ k : Nat, k ≤ n ∧ i = .int .i64 k ∧ v = .int .i64 (lowK s a k)) (fun _ _ i => n - (intOf i).toNat)
  case atStart => exact ⟨0, by omega, rfl, rfl⟩
  case round =>
    obtain ⟨k, hk, rfl, rfl⟩ := hrel
    by_cases hlt : k < n
    · have i3 : ((a : Int) + k).toNat = a + k := by omega
      have i4 : (0 : Int) ≤ (a : Int) + k := by omega
      have i5 : (a : Int) + k < s.size := by omega
      have i6 : a + k < s.size := by omega
      go_wp2
      go_round
      case rel => exact ⟨k + 1, by omega, by go_num, by rw [byN_get s (a + k) i6, lowK_round s a k (by omega)]⟩
      case measure => simp [intOf]; omega
    · have E := Lib.hid (show lowK s a k = lowK s a n by rw [show k = n by omega])
      have hge : n ≤ k := by omega
      go_wp2
      go_ret
      exact ⟨ret_i E.out, rfl⟩
def sideI (b : Int) : Int := if b = 0 then 256 else b
theorem low_at (s : ByteArray) (a n : Nat) (i k V : Int) (w : World) (hi : i = a) (hk : k = n) (hV : lowK s a n = V) (hn : n ≤ 4) (h : a + n ≤ s.size) (hs : s.size ≤ 9223372036854775807) : Calls Try.prog 92 #[.string s, .int .i64 i, .int .i64 k] w fun e w' => e = .returned (.int .i64 V) ∧ w' = w := by
  subst hi hk hV; exact low_any s a n w hn h hs
def isIco (s : ByteArray) : Bool := decide (10 ≤ s.size) && (lowK s 0 2 == 0 && (byN s 9 == 0 && ((lowK s 2 2 == 1 || lowK s 2 2 == 2) && decide (lowK s 4 2 > 0))))
set_option maxRecDepth 100000 in
theorem iis_any (s : ByteArray) (w : World) (hs : s.size ≤ 9223372036854775807) : Calls Try.prog 59 #[.string s] w fun e w' => e = .returned (.bool (isIco s)) ∧ w' = w := by
  by_cases h : s.size < 10
  · have D0 : decide ((s.size : Int) < 10) = true := by rw [decide_eq_true_iff]; omega
    have E := Lib.hid (show isIco s = false by unfold isIco; rw [decide_eq_false (by omega)]; rfl)
    go_enter Try.func59, Try.ntmps59
    go_wp2
    go_ret
    exact ⟨ret_b E.out.symm, rfl⟩
  have D0 : decide ((s.size : Int) < 10) = false := by rw [decide_eq_false_iff_not]; omega
  obtain ⟨x0, hx0⟩ : ∃ x, lowK s 0 2 = x := ⟨_, rfl⟩
  obtain ⟨x2, hx2⟩ : ∃ x, lowK s 2 2 = x := ⟨_, rfl⟩
  obtain ⟨x4, hx4⟩ : ∃ x, lowK s 4 2 = x := ⟨_, rfl⟩
  obtain ⟨x9, hx9⟩ : ∃ x, byN s 9 = x := ⟨_, rfl⟩
  have HL0 := Lib.hid (fun w0 => low_at s 0 2 0 2 x0 w0 rfl rfl hx0 (by omega) (by omega) hs)
  have HL2 := Lib.hid (fun w0 => low_at s 2 2 2 2 x2 w0 rfl rfl hx2 (by omega) (by omega) hs)
  have HL4 := Lib.hid (fun w0 => low_at s 4 2 4 2 x4 w0 rfl rfl hx4 (by omega) (by omega) hs)
  have i9 : 9 < s.size := by omega
  have g9 : ((s[9]).toNat : Int) = x9 := by rw [← hx9]; exact byN_get s 9 i9
  have E : isIco s = (x0 == 0 && (x9 == 0 && ((x2 == 1 || x2 == 2) && decide (x4 > 0)))) := by unfold isIco; rw [decide_eq_true (by omega : 10 ≤ s.size), hx0, hx2, hx4, hx9]; rfl
  obtain ⟨z0, e0⟩ : ∃ b, (x0 == 0) = b := ⟨_, rfl⟩
  obtain ⟨z9, e9⟩ : ∃ b, (x9 == 0) = b := ⟨_, rfl⟩
  obtain ⟨k1, e1⟩ : ∃ b, (x2 == 1) = b := ⟨_, rfl⟩
  obtain ⟨k2, e2⟩ : ∃ b, (x2 == 2) = b := ⟨_, rfl⟩
  have n0 : (x0 != 0) = !z0 := by rw [← e0]; rfl
  have n9 : (x9 != 0) = !z9 := by rw [← e9]; rfl
  rw [e0, e9, e1, e2] at E
  have E := Lib.hid E
  clear hx0 hx2 hx4 hx9 h
  go_enter Try.func59, Try.ntmps59
  cases z0
  · go_wp2_with ((go_at_call 92; (with_reducible refine (HL0.out _).mono ?_); rintro e w1 ⟨rfl, rfl⟩))
    go_ret
    exact ⟨ret_b E.out.symm, rfl⟩
  cases z9
  · go_wp2_with ((go_at_call 92; (with_reducible refine (HL0.out _).mono ?_); rintro e w1 ⟨rfl, rfl⟩))
    go_ret
    exact ⟨ret_b E.out.symm, rfl⟩
  cases k1 <;> cases k2
  all_goals go_wp2_with (first | (go_at_call 92; (with_reducible refine (HL0.out _).mono ?_); rintro e w1 ⟨rfl, rfl⟩) | (go_at_call 92; (with_reducible refine (HL2.out _).mono ?_); rintro e w1 ⟨rfl, rfl⟩) | (go_at_call 92; (with_reducible refine (HL4.out _).mono ?_); rintro e w1 ⟨rfl, rfl⟩))
  all_goals go_ret
  all_goals exact ⟨ret_b E.out.symm, rfl⟩
end Go.Proofs.Ytlhcjnjajkfahaa

/- The bit reader as an object. -/
import Derived.Test.YtobpocdpnkicnaaC0
import Derived.Laws.EntriesVeiled
namespace Go.Proofs.Ytobpocdpnkicnaa
open Go.RowKit
set_option linter.unusedVariables false
def fBit (low : Bool) : Value := .func (.func (if low = true then 90 else 88)) #[] #[]
def fJoin (low : Bool) : Value := .func (.func (if low = true then 91 else 89)) #[] #[]
def btCells (X : Nat) (now : Int) (left : Nat) (low : Bool) : Array Value := #[.pointer (some ⟨X, 0, none⟩), .int .i64 now, .int .i64 left, fBit low, fJoin low]
/-- A reader of bits at bit t of its source, which is over all of a text. -/
structure BitsAt (w : World) (K X : Nat) (L : Nat) (s : ByteArray) (low : Bool) (t : Nat) (l : Led) : Prop where
  obj : ∃ now : Int, Obj1 w K (btCells X now ((8 - t % 8) % 8) low) 153 ∧ (t % 8 ≠ 0 → now = byN s (t / 8))
  pair : Pair w X ⟨L, s, 0, s.size, (t + 7) / 8⟩ l
  nx : K ≠ X
  nl : K ≠ L
  br : l.br = false
  enough : l.st + (s.size - (t + 7) / 8 : Nat) ≤ l.mx
theorem bnew_any (X L : Nat) (s : ByteArray) (low : Bool) (l : Led) (w : World) (h : Pair w X ⟨L, s, 0, s.size, 0⟩ l) (hb : l.br = false) (he : l.st + s.size ≤ l.mx) : Calls Try.prog 57 #[.pointer (some ⟨X, 0, none⟩), .bool low] w fun e w' =>
      ∃ K, e = .returned (.tuple #[.pointer (some ⟨K, 0, none⟩), .int .i64 0]) ∧ BitsAt w' K X L s low 0 l ∧ w.heap.size ≤ K ∧ Chg (fun _ => False) w w' := by
  have hx := h.src.lt
  have hl : L < w.heap.size := h.led.lt
  have HP := Lib.hid h
  have HE := Lib.hid he
  clear h he
  have fin : ∀ w', Chg (fun _ => False) w w' → Obj1 w' w.heap.size (btCells X 0 0 low) 153 → BitsAt w' w.heap.size X L s low 0 l := fun w' hc ho =>
    ⟨⟨0, ho, fun h => absurd rfl h⟩, ⟨HP.out.src.chg hc (fun h => h), HP.out.led.chg hc (fun h => h)⟩, by omega, by omega, hb, by have := HE.out; simp; omega⟩
  have FIN := Lib.hid fin
  clear fin
  cases low with
  | false =>
    go_enter Try.func57, Try.ntmps57
    go_wp2
    go_ret2
    exact ⟨w.heap.size, rfl, FIN.out _ ((Chg.refl _ _).alloc _) (obj1_new _ _ _), Nat.le_refl _, (Chg.refl _ _).alloc _⟩
  | true =>
    go_enter Try.func57, Try.ntmps57
    go_wp2
    go_ret2
    exact ⟨w.heap.size, rfl, FIN.out _ ((Chg.refl _ _).alloc _) (obj1_new _ _ _), Nat.le_refl _, (Chg.refl _ _).alloc _⟩
theorem bnew_nil (low : Bool) (w : World) : Calls Try.prog 57 #[.pointer none, .bool low] w fun e w' => e = .returned (.tuple #[.pointer none, .int .i64 1]) ∧ w = w' := by
  go_enter Try.func57, Try.ntmps57
  go_wp2
  go_ret2
  exact ⟨rfl, rfl⟩
theorem bleft_any (K X L : Nat) (s : ByteArray) (low : Bool) (t : Nat) (l : Led) (w : World) (h : BitsAt w K X L s low t l) : Calls Try.prog 61 #[.pointer (some ⟨K, 0, none⟩)] w fun e w' => e = .returned (.int .i64 ((8 - t % 8) % 8 : Nat)) ∧ w = w' := by
  obtain ⟨now, ho, -⟩ := h.obj
  have c2 : w.cell? ⟨K, 2, none⟩ = some (.int .i64 ((8 - t % 8) % 8 : Nat)) := (ho.cell 2).trans rfl
  obtain ⟨z, hz⟩ : ∃ z, (8 - t % 8) % 8 = z := ⟨_, rfl⟩
  rw [hz] at c2 ⊢
  clear ho h hz
  go_enter Try.func61, Try.ntmps61
  go_wp2
  go_ret
  exact ⟨rfl, rfl⟩
/-- What a reader leaves of its bit and its byte. -/
def three (K X L : Nat) (k : Nat) : Prop := k = K ∨ k = X ∨ k = L
theorem balign_any (K X L : Nat) (s : ByteArray) (low : Bool) (t : Nat) (l : Led) (w : World) (h : BitsAt w K X L s low t l) : Calls Try.prog 62 #[.pointer (some ⟨K, 0, none⟩)] w fun e w' =>
      e = .returned (.int .i64 ((8 - t % 8) % 8 : Nat)) ∧ BitsAt w' K X L s low (t + (8 - t % 8) % 8) l ∧ Chg (three K X L) w w' := by
  obtain ⟨now, ho, hn⟩ := h.obj
  have c2 : w.cell? ⟨K, 2, none⟩ = some (.int .i64 ((8 - t % 8) % 8 : Nat)) := (ho.cell 2).trans rfl
  have f2 := ho.frozen 2
  have FIN := Lib.hid (show BitsAt (w.setCell ⟨K, 2, none⟩ (.int .i64 0)) K X L s low (t + (8 - t % 8) % 8) l from by
    have e8 : (t + (8 - t % 8) % 8) % 8 = 0 := by omega
    have e9 : (t + (8 - t % 8) % 8 + 7) / 8 = (t + 7) / 8 := by omega
    refine ⟨⟨now, ?_, fun h => absurd e8 h⟩, ?_, h.nx, h.nl, h.br, by rw [e9]; exact h.enough⟩
    · rw [e8]; exact ho.set 2 _
    · rw [e9]; exact ⟨⟨h.pair.src.obj.set_other _ _ (fun e => h.nx e.symm), h.pair.src.ok, h.pair.src.ne⟩, h.pair.led.put _ (fun e => h.nl e.symm)⟩)
  obtain ⟨z, hz⟩ : ∃ z, (8 - t % 8) % 8 = z := ⟨_, rfl⟩
  rw [hz] at c2 FIN ⊢
  clear ho h hz hn
  go_enter Try.func62, Try.ntmps62
  go_wp2
  go_ret
  exact ⟨rfl, FIN.out, (Chg.refl _ _).set _ _ (Or.inl (Or.inl rfl))⟩
end Go.Proofs.Ytobpocdpnkicnaa

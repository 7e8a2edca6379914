/- The law SrcNumbers, walked. -/
import Derived.Test.YtlhcjnjajkfahaaS8
import Derived.Test.YtlhcjnjajkfahaaA2
namespace Go.Proofs.Ytlhcjnjajkfahaa
open Go.RowKit
set_option linter.unusedVariables false
theorem rsigned_any (s : ByteArray) (w : World) (hs : s.size ≤ 4) : Calls Try.prog 43 #[.string s] w fun e w' => e = .returned (.int .i64 (signed (loK s s.size))) ∧ w = w' := by
  have hb := loK_bd s s.size
  have hp := pow_le' (show 8 * s.size ≤ 32 by omega)
  have h32 : (2 : Int) ^ 32 = 4294967296 := by decide
  have HL := Lib.hid (fun w0 => rle_any s w0 hs)
  unfold signed
  obtain ⟨v, hv⟩ : ∃ v, loK s s.size = v := ⟨_, rfl⟩
  rw [hv] at HL hb ⊢
  have v0 : 0 ≤ v := hb.1
  have v1 : v < 4294967296 := by omega
  clear hb hp h32 hv hs
  by_cases h : 2147483648 ≤ v
  · rw [if_pos h]
    go_enter Try.func43, Try.ntmps43
    go_wp2_with (go_at_call 41; (with_reducible refine (HL.out _).mono ?_); rintro e w1 ⟨rfl, rfl⟩)
    go_ret
    exact ⟨rfl, rfl⟩
  · rw [if_neg h]
    have h' : v < 2147483648 := by omega
    go_enter Try.func43, Try.ntmps43
    go_wp2_with (go_at_call 41; (with_reducible refine (HL.out _).mono ?_); rintro e w1 ⟨rfl, rfl⟩)
    go_ret
    exact ⟨rfl, rfl⟩
def l100 (k : Int) : Led := { Led.new 0 0 0 100 with st := k }
theorem nx100 (L : Nat) (s : ByteArray) (p n : Nat) (z k : Int) (h : p + n ≤ 4) (hz : z = n) (hk : k < 100) : Sr.next ⟨L, s, 0, 4, p⟩ (l100 k) z = ((⟨L, s, 0, 4, p + n⟩, l100 (k + 1)), (s.extract p (p + n), true)) := by
  subst hz
  have hw : (l100 k).work 1 = (l100 (k + 1), true) := by
    unfold Led.work
    rw [if_neg (by simp [l100, Led.new]), if_neg (by show ¬ ((1 : Int) < 0 ∨ 100 - k < 1); omega)]
    rfl
  unfold Sr.next
  rw [hw, if_pos ⟨rfl, by omega, by simp only; omega⟩]
  simp
theorem sk100 (L : Nat) (s : ByteArray) (p n : Nat) (z : Int) (h : n ≤ 4) (hz : z = n) : Sr.seek ⟨L, s, 0, 4, p⟩ z = (⟨L, s, 0, 4, n⟩, true) := by
  subst hz
  unfold Sr.seek
  rw [if_neg (by simp only; omega)]
  simp
theorem seek_at {w : World} {X : Nat} {x y z : Sr} {l : Led} {ok ok' : Bool} {e : Ending} {w' : World} (h : BoolPost w X x y l ok e w') (hy : (y, ok) = (z, ok')) : BoolPost w X x z l ok' e w' := by
  injection hy with h1 h2; subst h1 h2; exact h
theorem str4 (a b c d : Int) (w : World) (T src dst e' : TypeId) (hs : Try.prog.underlying src = some (.slice e')) (he : Try.prog.underlying e' = some (.int .u8)) (hd : Try.prog.underlying dst = some .string) :
    (convert src dst (.slice (some ⟨w.heap.size, 0, none⟩) 4 4)).run Try.prog (w.alloc (.cells #[.int .u8 a, .int .u8 b, .int .u8 c, .int .u8 d] T)) = .ok (.string (strOf [a, b, c, d])) (w.alloc (.cells #[.int .u8 a, .int .u8 b, .int .u8 c, .int .u8 d] T)) := by
  rw [run_convert_bytes_string _ src dst e' _ 4 4 hs he hd]
  refine run_bytesToString _ _ 4 4 [a, b, c, d] ?_
  have := run_loadCells_list (P := Try.prog) (w.alloc (.cells #[.int .u8 a, .int .u8 b, .int .u8 c, .int .u8 d] T)) ⟨w.heap.size, 0, none⟩ ([a, b, c, d].map (Value.int .u8)) (fun j v hv => by
    rw [Addr.add_mid, Nat.zero_add]
    rcases (show j = 0 ∨ j = 1 ∨ j = 2 ∨ j = 3 by have := (List.getElem?_eq_some_iff.1 hv).1; simp at this; omega) with rfl | rfl | rfl | rfl <;> simp [go_sem] at hv ⊢ <;> exact hv)
  exact this
theorem str4_size (a b c d : Int) : (strOf [a, b, c, d]).size = 4 := rfl
end Go.Proofs.Ytlhcjnjajkfahaa

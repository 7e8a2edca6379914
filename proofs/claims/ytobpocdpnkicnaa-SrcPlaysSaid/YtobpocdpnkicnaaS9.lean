/- The law SrcNumbers, walked. -/
import Derived.Test.YtobpocdpnkicnaaS8
import Derived.Test.YtobpocdpnkicnaaA2
namespace Go.Proofs.Ytobpocdpnkicnaa
open Go.RowKit
set_option linter.unusedVariables false
theorem rsigned_any (s : ByteArray) (w : World) (hs : s.size ≤ 4) : Calls Try.prog 55 #[.string s] w fun e w' => e = .returned (.int .i64 (signed (loK s s.size))) ∧ w = w' := by
  have hb := loK_bd s s.size
  have hp := pow_le' (show 8 * s.size ≤ 32 by omega)
  have h32 : (2 : Int) ^ 32 = 4294967296 := by decide
  have HL := Lib.hid (fun w0 => rle_any s w0 hs)
  unfold signed
  obtain ⟨v, hv⟩ : ∃ v, loK s s.size = v := ⟨_, rfl⟩
  rw [hv] at HL hb ⊢
  have v0 : 0 ≤ v := hb.1
  have v1 : v < 4294967296 := by omega
  clear hb hp h32 hv hs
  by_cases h : 2147483648 ≤ v
  · rw [if_pos h]
    go_enter Try.func55, Try.ntmps55
    go_wp2_with (go_at_call 53; (with_reducible refine (HL.out _).mono ?_); rintro e w1 ⟨rfl, rfl⟩)
    go_ret
    exact ⟨rfl, rfl⟩
  · rw [if_neg h]
    have h' : v < 2147483648 := by omega
    go_enter Try.func55, Try.ntmps55
    go_wp2_with (go_at_call 53; (with_reducible refine (HL.out _).mono ?_); rintro e w1 ⟨rfl, rfl⟩)
    go_ret
    exact ⟨rfl, rfl⟩
def l100 (k : Int) : Led := { Led.new 0 0 0 100 with st := k }
theorem nx100 (L : Nat) (s : ByteArray) (p n : Nat) (z k : Int) (h : p + n ≤ 4) (hz : z = n) (hk : k < 100) : Sr.next ⟨L, s, 0, 4, p⟩ (l100 k) z = ((⟨L, s, 0, 4, p + n⟩, l100 (k + 1)), (s.extract p (p + n), true)) := by
  subst hz
  have hw : (l100 k).work 1 = (l100 (k + 1), true) := by
    unfold Led.work
    rw [if_neg (by simp [l100, Led.new]), if_neg (by show ¬ ((1 : Int) < 0 ∨ 100 - k < 1); omega)]
    rfl
  unfold Sr.next
  rw [hw, if_pos ⟨rfl, by omega, by simp only; omega⟩]
  simp
theorem sk100 (L : Nat) (s : ByteArray) (p n : Nat) (z : Int) (h : n ≤ 4) (hz : z = n) : Sr.seek ⟨L, s, 0, 4, p⟩ z = (⟨L, s, 0, 4, n⟩, true) := by
  subst hz
  unfold Sr.seek
  rw [if_neg (by simp only; omega)]
  simp
theorem seek_at {w : World} {X : Nat} {x y z : Sr} {l : Led} {ok ok' : Bool} {e : Ending} {w' : World} (h : BoolPost w X x y l ok e w') (hy : (y, ok) = (z, ok')) : BoolPost w X x z l ok' e w' := by
  injection hy with h1 h2; subst h1 h2; exact h
theorem str4 (a b c d : Int) (w : World) (T src dst e' : TypeId) (hs : Try.prog.underlying src = some (.slice e')) (he : Try.prog.underlying e' = some (.int .u8)) (hd : Try.prog.underlying dst = some .string) :
    (convert src dst (.slice (some ⟨w.heap.size, 0, none⟩) 4 4)).run Try.prog (w.alloc (.cells #[.int .u8 a, .int .u8 b, .int .u8 c, .int .u8 d] T)) = .ok (.string (strOf [a, b, c, d])) (w.alloc (.cells #[.int .u8 a, .int .u8 b, .int .u8 c, .int .u8 d] T)) := by
  rw [run_convert_bytes_string _ src dst e' _ 4 4 hs he hd]
  refine run_bytesToString _ _ 4 4 [a, b, c, d] ?_
  have := run_loadCells_list (P := Try.prog) (w.alloc (.cells #[.int .u8 a, .int .u8 b, .int .u8 c, .int .u8 d] T)) ⟨w.heap.size, 0, none⟩ ([a, b, c, d].map (Value.int .u8)) (fun j v hv => by
    rw [Addr.add_mid, Nat.zero_add]
    rcases (show j = 0 ∨ j = 1 ∨ j = 2 ∨ j = 3 by have := (List.getElem?_eq_some_iff.1 hv).1; simp at this; omega) with rfl | rfl | rfl | rfl <;> simp [go_sem] at hv ⊢ <;> exact hv)
  exact this
theorem str4_size (a b c d : Int) : (strOf [a, b, c, d]).size = 4 := rfl
theorem numbers_walk (a b c d : Int) (ha : (Lit.int .u8 a).wf = true) (hb : (Lit.int .u8 b).wf = true) (hc : (Lit.int .u8 c).wf = true) (hd : (Lit.int .u8 d).wf = true) (w : World) :
    Calls Try.prog 11 #[.int .u8 a, .int .u8 b, .int .u8 c, .int .u8 d] w fun e w' => e = .returned (.bool true) ∧ Below w.heap.size w w' := by
  have hcv := str4 a b c d w 5 86 9 5 Try.underlying86 Try.underlying5 Try.underlying9
  have hsz := str4_size a b c d
  obtain ⟨s, hs⟩ : ∃ s, strOf [a, b, c, d] = s := ⟨_, rfl⟩
  rw [hs] at hcv hsz
  clear hs ha hb hc hd
  have hex : s.extract 0 4 = s := by rw [← hsz]; simp
  obtain ⟨V1, h1⟩ : ∃ v, loK s s.size = v := ⟨_, rfl⟩
  obtain ⟨V2, h2⟩ : ∃ v, hiK s s.size = v := ⟨_, rfl⟩
  obtain ⟨V3, h3⟩ : ∃ v, signed V1 = v := ⟨_, rfl⟩
  have hx2 : (s.extract 1 3).size = 2 := by rw [ByteArray.size_extract, hsz]; rfl
  obtain ⟨V4, h4⟩ : ∃ v, loK (s.extract 1 3) (s.extract 1 3).size = v := ⟨_, rfl⟩
  obtain ⟨V5, h5⟩ : ∃ v, hiK (s.extract 1 3) (s.extract 1 3).size = v := ⟨_, rfl⟩
  have N1 : numB (s.extract 0 (0 + 4)) true = V1 := by rw [Nat.zero_add, hex, ← h1]; rfl
  have N2 : numB (s.extract 0 (0 + 4)) false = V2 := by rw [Nat.zero_add, hex, ← h2]; rfl
  have N4 : numB (s.extract 1 (1 + 2)) true = V4 := by rw [← h4]; rfl
  have N5 : numB (s.extract 1 (1 + 2)) false = V5 := by rw [← h5]; rfl
  have R1 := Lib.hid (fun w0 => (rle_any s w0 (by omega)).mono (R' := fun e w' => e = .returned (.int .i64 V1) ∧ w0 = w') fun e w' hh => by rw [h1] at hh; exact hh)
  have R2 := Lib.hid (fun w0 => (rbe_any s w0 (by omega)).mono (R' := fun e w' => e = .returned (.int .i64 V2) ∧ w0 = w') fun e w' hh => by rw [h2] at hh; exact hh)
  have R3 := Lib.hid (fun w0 => (rsigned_any s w0 (by omega)).mono (R' := fun e w' => e = .returned (.int .i64 V3) ∧ w0 = w') fun e w' hh => by rw [h1, h3] at hh; exact hh)
  have R4 := Lib.hid (fun w0 => (rle_any (s.extract 1 3) w0 (by omega)).mono (R' := fun e w' => e = .returned (.int .i64 V4) ∧ w0 = w') fun e w' hh => by rw [h4] at hh; exact hh)
  have R5 := Lib.hid (fun w0 => (rbe_any (s.extract 1 3) w0 (by omega)).mono (R' := fun e w' => e = .returned (.int .i64 V5) ∧ w0 = w') fun e w' hh => by rw [h5] at hh; exact hh)
  have M1 := Lib.hid N1
  have M2 := Lib.hid N2
  have M4 := Lib.hid N4
  have M5 := Lib.hid N5
  have M3 := Lib.hid (show signed (numB (s.extract 0 (0 + 4)) true) = V3 by rw [N1, h3])
  have HZ := Lib.hid hsz
  have z0 : s.size ≤ 4 := by omega
  have z1 : 4 ≤ s.size := by omega
  clear hex h1 h2 h3 h4 h5 N1 N2 N4 N5 hx2 hsz
  go_enter Try.func11, Try.ntmps11
  go_wp2_with (first
    | (go_at_call 40; (with_reducible refine (lnew_k 100 _ (by decide)).mono ?_); rintro e w1 ⟨L, rfl, hL, hLs, hC1⟩)
    | (go_at_call 41; (with_reducible refine (snew_at _ _ _ _ (by omega) hL).mono ?_); rintro e w2 ⟨X, rfl, hP, hXs, hC2⟩))
  have P : Pair w2 X ⟨L, s, 0, 4, 0⟩ (l100 0) := by rw [← HZ.out]; exact hP
  have HP2 := Lib.hid P
  have B1 : Below w.heap.size w w1 := ((Below.refl _ _).alloc (Nat.le_refl _) _).trans ((chg_none hC1).mono (by simp))
  have B2 := Lib.hid (B1.trans ((chg_none hC2).mono B1.size))
  have hLW : w.heap.size ≤ L := Nat.le_trans (by simp) hLs
  have hXW : w.heap.size ≤ X := Nat.le_trans B1.size hXs
  clear P hP hC1 hC2 hL hXs hLs B1
  go_wp2_with fail
  refine (le32_any X _ _ _ HP2.out).mono ?_
  intro e w3 g3
  obtain ⟨rfl, P3, C3⟩ := num_at g3 (nx100 L s 0 4 4 0 (by decide) rfl (by decide)) M1.out
  have HP3 := Lib.hid P3
  have B3 := Lib.hid (chg_two B2.out C3 hXW hLW)
  clear g3 P3 C3
  go_wp2_with fail
  refine (seek_any X _ _ 0 _ HP3.out).mono ?_
  intro e w4 g4
  obtain ⟨rfl, P4, C4⟩ := seek_at g4 (sk100 L s (0 + 4) 0 0 (by decide) rfl)
  have HP4 := Lib.hid P4
  have B4 := Lib.hid (chg_two B3.out C4 hXW hLW)
  clear g4 P4 C4
  go_wp2_with fail
  refine (be32_any X _ _ _ HP4.out).mono ?_
  intro e w5 g5
  obtain ⟨rfl, P5, C5⟩ := num_at g5 (nx100 L s 0 4 4 (0 + 1) (by decide) rfl (by decide)) M2.out
  have HP5 := Lib.hid P5
  have B5 := Lib.hid (chg_two B4.out C5 hXW hLW)
  clear g5 P5 C5
  go_wp2_with fail
  refine (seek_any X _ _ 0 _ HP5.out).mono ?_
  intro e w6 g6
  obtain ⟨rfl, P6, C6⟩ := seek_at g6 (sk100 L s (0 + 4) 0 0 (by decide) rfl)
  have HP6 := Lib.hid P6
  have B6 := Lib.hid (chg_two B5.out C6 hXW hLW)
  clear g6 P6 C6
  go_wp2_with fail
  refine (int32_any X _ _ _ HP6.out).mono ?_
  intro e w7 g7
  obtain ⟨rfl, P7, C7⟩ : NumPost w6 X _ ⟨L, s, 0, 4, 0 + 4⟩ (l100 (0 + 1 + 1 + 1)) V3 true e w7 := by
    have g7' : SgnOf w6 X ⟨L, s, 0, 4, 0⟩ (l100 (0 + 1 + 1)) e w7 := g7
    unfold SgnOf at g7'; rw [nx100 L s 0 4 4 (0 + 1 + 1) (by decide) rfl (by decide)] at g7'
    have g7'' : NumPost w6 X _ ⟨L, s, 0, 4, 0 + 4⟩ (l100 (0 + 1 + 1 + 1)) (signed (numB (s.extract 0 (0 + 4)) true)) true e w7 := g7'
    rw [M3.out] at g7''; exact g7''
  have HP7 := Lib.hid P7
  have B7 := Lib.hid (chg_two B6.out C7 hXW hLW)
  clear g7 P7 C7
  go_wp2_with fail
  refine (seek_any X _ _ 1 _ HP7.out).mono ?_
  intro e w8 g8
  obtain ⟨rfl, P8, C8⟩ := seek_at g8 (sk100 L s (0 + 4) 1 1 (by decide) rfl)
  have HP8 := Lib.hid P8
  have B8 := Lib.hid (chg_two B7.out C8 hXW hLW)
  clear g8 P8 C8
  go_wp2_with fail
  refine (le16_any X _ _ _ HP8.out).mono ?_
  intro e w9 g9
  obtain ⟨rfl, P9, C9⟩ := num_at g9 (nx100 L s 1 2 2 (0 + 1 + 1 + 1) (by decide) rfl (by decide)) M4.out
  have HP9 := Lib.hid P9
  have B9 := Lib.hid (chg_two B8.out C9 hXW hLW)
  clear g9 P9 C9
  go_wp2_with fail
  refine (seek_any X _ _ 1 _ HP9.out).mono ?_
  intro e wA gA
  obtain ⟨rfl, PA, CA⟩ := seek_at gA (sk100 L s (1 + 2) 1 1 (by decide) rfl)
  have HPA := Lib.hid PA
  have BA := Lib.hid (chg_two B9.out CA hXW hLW)
  clear gA PA CA
  go_wp2_with fail
  refine (be16_any X _ _ _ HPA.out).mono ?_
  intro e wB gB
  obtain ⟨rfl, PB, CB⟩ := num_at gB (nx100 L s 1 2 2 (0 + 1 + 1 + 1 + 1) (by decide) rfl (by decide)) M5.out
  have BB := Lib.hid (chg_two BA.out CB hXW hLW)
  clear gB PB CB
  go_wp2_with fail
  refine (R1.out _).mono ?_
  rintro e w' ⟨rfl, rfl⟩
  go_wp2_with fail
  refine (R2.out _).mono ?_
  rintro e w' ⟨rfl, rfl⟩
  go_wp2_with fail
  refine (R3.out _).mono ?_
  rintro e w' ⟨rfl, rfl⟩
  go_wp2_with fail
  refine (R4.out _).mono ?_
  rintro e w' ⟨rfl, rfl⟩
  go_wp2_with fail
  refine (R5.out _).mono ?_
  rintro e w' ⟨rfl, rfl⟩
  go_wp2_with fail
  refine (awake5 _).mono ?_
  rintro e w' ⟨rfl, hb⟩
  go_wp2_with fail
  go_ret
  exact ⟨rfl, bthen hb BB.out BB.out.size⟩
end Go.Proofs.Ytobpocdpnkicnaa

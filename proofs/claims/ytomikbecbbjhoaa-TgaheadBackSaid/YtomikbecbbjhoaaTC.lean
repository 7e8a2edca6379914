/- TgaheadBack's plain law: the bytes of a head that was read are those that were read. -/
import Derived.Test.YtomikbecbbjhoaaTA
namespace Go.Proofs.Ytomikbecbbjhoaa
open Go.RowKit
set_option linter.unusedVariables false
set_option linter.unusedSimpArgs false
theorem if_none16 {α : Type} (b : Bool) (p : α) (o : Option α) : (if b = true then some p else o) = none ↔ b = false ∧ o = none := by cases b <;> simp
theorem first_none (c : Chk) : c.first = none ↔ (decide (1 < c.x1) = false ∧ (!c.kn) = false ∧ (c.pb && !c.th) = false ∧ (c.th && !c.c7) = false ∧ (c.th && c.C == 0) = false ∧ (c.W == 0) = false ∧ decide (16384 < c.W) = false ∧ (c.H == 0) = false ∧ decide (16384 < c.H) = false ∧ (!c.dp) = false ∧ (c.f / 64 != 0) = false ∧ (!c.al) = false) := by
  simp only [Chk.first, Chk.from, Chk.row, if_none16, and_true]
theorem fold_data (l : List Int) : ∀ r : ByteArray, (l.foldl (fun r n => r.push (UInt8.ofNat n.toNat)) r).data.toList = r.data.toList ++ l.map (fun n => UInt8.ofNat n.toNat) := by
  induction l with
  | nil => intro r; simp
  | cons a l ih => intro r; rw [List.foldl_cons, ih]; simp [ByteArray.data_push]
theorem byN_strOf (l : List Int) (i : Nat) (x : Int) (h : l[i]? = some x) (h0 : 0 ≤ x) (h1 : x < 256) : byN (strOf l) i = x := by
  unfold byN strOf
  rw [fold_data]
  rw [show (ByteArray.empty.data.toList ++ l.map (fun n => UInt8.ofNat n.toNat)) = l.map (fun n => UInt8.ofNat n.toNat) from rfl, List.getD_eq_getElem?_getD, List.getElem?_map, h]
  show ((UInt8.ofNat x.toNat).toNat : Int) = x
  rw [UInt8.toNat_ofNat']
  omega
theorem flags_back (f : Int) (h0 : 0 ≤ f) (h1 : f < 64) : (if (f / 32 % 2 == 1) = true then bits .or .u8 (if (f / 16 % 2 == 1) = true then bits .or .u8 (f % 16 % 16) 16 else f % 16 % 16) 32 else (if (f / 16 % 2 == 1) = true then bits .or .u8 (f % 16 % 16) 16 else f % 16 % 16)) = f := by
  obtain ⟨k, rfl⟩ := Int.eq_ofNat_of_zero_le h0
  exact (by decide +kernel : ∀ k : Fin 64, (if (((k.val : Nat) : Int) / 32 % 2 == 1) = true then bits .or .u8 (if (((k.val : Nat) : Int) / 16 % 2 == 1) = true then bits .or .u8 (((k.val : Nat) : Int) % 16 % 16) 16 else ((k.val : Nat) : Int) % 16 % 16) 32 else (if (((k.val : Nat) : Int) / 16 % 2 == 1) = true then bits .or .u8 (((k.val : Nat) : Int) % 16 % 16) 16 else ((k.val : Nat) : Int) % 16 % 16)) = ((k.val : Nat) : Int)) ⟨k, by omega⟩
theorem idx14 {i : Nat} (hi : i < 18) (h2 : ¬ (8 ≤ i ∧ i < 12)) : i = 0 ∨ i = 1 ∨ i = 2 ∨ i = 3 ∨ i = 4 ∨ i = 5 ∨ i = 6 ∨ i = 7 ∨ i = 12 ∨ i = 13 ∨ i = 14 ∨ i = 15 ∨ i = 16 ∨ i = 17 := by omega
theorem idx9 {i : Nat} (hi : i < 18) (h2 : ¬ (8 ≤ i ∧ i < 12)) (h3 : ¬ (3 ≤ i ∧ i < 8)) : i = 0 ∨ i = 1 ∨ i = 2 ∨ i = 12 ∨ i = 13 ∨ i = 14 ∨ i = 15 ∨ i = 16 ∨ i = 17 := by omega
def backL (s : ByteArray) : List Int := bytesL (byN s 0) (byN s 1 == 1) (byN s 2) (if (byN s 1 == 1) = true then wordN s 3 else 0) (if (byN s 1 == 1) = true then wordN s 5 else 0) (if (byN s 1 == 1) = true then byN s 7 else 0) (wordN s 12) (wordN s 14) (byN s 16) (byN s 17 % 16) (byN s 17 / 16 % 2 == 1) (byN s 17 / 32 % 2 == 1)
set_option maxHeartbeats 1000000 in
theorem back_law (s : ByteArray) (hf : (chkS s).first = none) : (chkS (strOf (backL s))).first = none ∧ headL (strOf (backL s)) = headL s ∧ ∀ i, i < 18 → ¬ (8 ≤ i ∧ i < 12) → ¬ (3 ≤ i ∧ i < 8 ∧ byN s 1 = 0) → byN (strOf (backL s)) i = byN s i := by
  have hf' := (first_none _).1 hf
  obtain ⟨f0, f1, f2, f3, f4, f5, f6, f7, f8, f9, f10, f11⟩ := hf'
  have b0 := byN_bd s 0
  have b1 := byN_bd s 1
  have b2 := byN_bd s 2
  have b3 := byN_bd s 3
  have b4 := byN_bd s 4
  have b5 := byN_bd s 5
  have b6 := byN_bd s 6
  have b7 := byN_bd s 7
  have b12 := byN_bd s 12
  have b13 := byN_bd s 13
  have b14 := byN_bd s 14
  have b15 := byN_bd s 15
  have b16 := byN_bd s 16
  have b17 := byN_bd s 17
  have hx : ¬ 1 < byN s 1 := of_decide_eq_false f0
  have hfl : byN s 17 < 64 := by
    have : ((chkS s).f / 64 == 0) = true := by simpa using f10
    have h9 : byN s 17 / 64 = 0 := by have h8 : (chkS s).f / 64 = 0 := by simpa using this
                                      exact h8
    omega
  have w12 : wordN s 12 = byN s 12 + byN s 13 * 256 := rfl
  have w14 : wordN s 14 = byN s 14 + byN s 15 * 256 := rfl
  have w3 : wordN s 3 = byN s 3 + byN s 4 * 256 := rfl
  have w5 : wordN s 5 = byN s 5 + byN s 6 * 256 := rfl
  have T : ∀ i x, (backL s)[i]? = some x → 0 ≤ x → x < 256 → byN (strOf (backL s)) i = x := fun i x h h0 h1 => byN_strOf _ i x h h0 h1
  have T0 := T 0 _ rfl (by omega) (by omega)
  have T2 := T 2 _ rfl (by omega) (by omega)
  have T12 := T 12 _ rfl (by omega) (by omega)
  have T13 := T 13 _ rfl (by omega) (by omega)
  have T14 := T 14 _ rfl (by omega) (by omega)
  have T15 := T 15 _ rfl (by omega) (by omega)
  have T16 := T 16 _ rfl (by omega) (by omega)
  have e17 := flags_back (byN s 17) b17.1 hfl
  have S17 : byN (strOf (backL s)) 17 = byN s 17 := byN_strOf _ 17 _ ((show (backL s)[17]? = some _ from rfl).trans (congrArg some e17)) b17.1 b17.2
  have S0 : byN (strOf (backL s)) 0 = byN s 0 := by rw [T0]; omega
  have S2 : byN (strOf (backL s)) 2 = byN s 2 := by rw [T2]; omega
  have S12 : byN (strOf (backL s)) 12 = byN s 12 := by rw [T12]; omega
  have S13 : byN (strOf (backL s)) 13 = byN s 13 := by rw [T13]; omega
  have S14 : byN (strOf (backL s)) 14 = byN s 14 := by rw [T14]; omega
  have S15 : byN (strOf (backL s)) 15 = byN s 15 := by rw [T15]; omega
  have S16 : byN (strOf (backL s)) 16 = byN s 16 := by rw [T16]; omega
  clear T0 T2 T12 T13 T14 T15 T16 e17
  by_cases h1 : byN s 1 = 1
  · have hth : (byN s 1 == 1) = true := by simpa using h1
    have S1 : byN (strOf (backL s)) 1 = byN s 1 := by rw [h1]; exact T 1 1 (by unfold backL bytesL; rw [hth]; rfl) (by omega) (by omega)
    have S3 : byN (strOf (backL s)) 3 = byN s 3 := by rw [T 3 (wordN s 3 % 256) (by unfold backL bytesL; rw [hth]; rfl) (by omega) (by omega)]; omega
    have S4 : byN (strOf (backL s)) 4 = byN s 4 := by rw [T 4 (wordN s 3 / 256 % 256) (by unfold backL bytesL; rw [hth]; rfl) (by omega) (by omega)]; omega
    have S5 : byN (strOf (backL s)) 5 = byN s 5 := by rw [T 5 (wordN s 5 % 256) (by unfold backL bytesL; rw [hth]; rfl) (by omega) (by omega)]; omega
    have S6 : byN (strOf (backL s)) 6 = byN s 6 := by rw [T 6 (wordN s 5 / 256 % 256) (by unfold backL bytesL; rw [hth]; rfl) (by omega) (by omega)]; omega
    have S7 : byN (strOf (backL s)) 7 = byN s 7 := by rw [T 7 (byN s 7 % 256) (by unfold backL bytesL; rw [hth]; rfl) (by omega) (by omega)]; omega
    have hc : chkS (strOf (backL s)) = chkS s := by simp only [chkS, wordN, Nat.reduceAdd, S0, S1, S2, S3, S4, S5, S6, S7, S12, S13, S14, S15, S16, S17]
    refine ⟨by rw [hc]; exact hf, ?_, ?_⟩
    · simp only [headL, wordN, Nat.reduceAdd, S0, S1, S2, S3, S4, S5, S6, S7, S12, S13, S14, S15, S16, S17]
    · intro i hi h2 h3
      rcases idx14 hi h2 with rfl | rfl | rfl | rfl | rfl | rfl | rfl | rfl | rfl | rfl | rfl | rfl | rfl | rfl
      · exact S0
      · exact S1
      · exact S2
      · exact S3
      · exact S4
      · exact S5
      · exact S6
      · exact S7
      · exact S12
      · exact S13
      · exact S14
      · exact S15
      · exact S16
      · exact S17
  · have h0 : byN s 1 = 0 := by omega
    have hth : (byN s 1 == 1) = false := by simpa using h1
    have S1 : byN (strOf (backL s)) 1 = byN s 1 := by rw [h0]; exact T 1 0 (by unfold backL bytesL; rw [hth]; rfl) (by omega) (by omega)
    refine ⟨?_, ?_, ?_⟩
    · have F := (first_none (chkS s)).1 hf
      rw [first_none]
      clear f0 f1 f2 f3 f4 f5 f6 f7 f8 f9 f10 f11 hf T
      simp only [chkS, wordN, Nat.reduceAdd, S1, S2, S12, S13, S14, S15, S16, S17, hth, Bool.false_and, true_and, eq_self] at F ⊢
      exact F
    · simp only [headL, wordN, Nat.reduceAdd, S0, S1, S2, S12, S13, S14, S15, S16, S17, hth, Bool.false_eq_true, if_false]
    · intro i hi h2 h3
      rcases idx9 hi h2 (fun hh => h3 ⟨hh.1, hh.2, h0⟩) with rfl | rfl | rfl | rfl | rfl | rfl | rfl | rfl | rfl
      · exact S0
      · exact S1
      · exact S2
      · exact S12
      · exact S13
      · exact S14
      · exact S15
      · exact S16
      · exact S17
end Go.Proofs.Ytomikbecbbjhoaa

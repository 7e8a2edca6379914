/- The bytes of a directory are told again. Plain. -/
import Derived.Test.YtomikbecbbjhoaaID
import Derived.Test.YtomikbecbbjhoaaN4
namespace Go.Proofs.Ytomikbecbbjhoaa
open Go.RowKit
set_option linter.unusedVariables false
set_option linter.unusedSimpArgs false
theorem fold_data2 (l : List Int) : ∀ r : ByteArray, (l.foldl (fun r n => r.push (UInt8.ofNat n.toNat)) r).data.toList = r.data.toList ++ l.map (fun n => UInt8.ofNat n.toNat) := by
  induction l with
  | nil => intro r; simp
  | cons a l ih => intro r; rw [List.foldl_cons, ih]; simp [ByteArray.data_push]
theorem byN_strOf2 (l : List Int) (i : Nat) (x : Int) (h : l[i]? = some x) (h0 : 0 ≤ x) (h1 : x < 256) : byN (strOf l) i = x := by
  unfold byN strOf
  rw [fold_data2]
  rw [show (ByteArray.empty.data.toList ++ l.map (fun n => UInt8.ofNat n.toNat)) = l.map (fun n => UInt8.ofNat n.toNat) from rfl, List.getD_eq_getElem?_getD, List.getElem?_map, h]
  show ((UInt8.ofNat x.toNat).toNat : Int) = x
  rw [UInt8.toNat_ofNat']
  omega
theorem strOf_size2 (l : List Int) : (strOf l).size = l.length := by
  have h := congrArg List.length (fold_data2 l ByteArray.empty)
  rw [List.length_append, List.length_map] at h
  have h0 : ByteArray.empty.data.toList.length = 0 := rfl
  rw [h0, Nat.zero_add] at h
  rw [Array.length_toList] at h
  exact h
def eB (e : Ent) : List Int := [byteAt e.W 0, byteAt e.H 0, byteAt 0 0, byteAt 0 1, byteAt e.A 0, byteAt e.A 1, byteAt e.B 0, byteAt e.B 1, byteAt e.Z 0, byteAt e.Z 1, byteAt e.Z 2, byteAt e.Z 3, byteAt e.P 0, byteAt e.P 1, byteAt e.P 2, byteAt e.P 3]
theorem putE_eq (L : List Int) (e : Ent) : putE L e = L ++ eB e := by
  unfold putE
  simp only [List.append_assoc]
  rfl
def headB (cur : Bool) (n : Nat) : List Int := [byteAt 0 0, byteAt 0 1, byteAt (bif cur then 2 else 1) 0, byteAt (bif cur then 2 else 1) 1, byteAt n 0, byteAt n 1]
theorem dirB_head (cur : Bool) (n : Nat) (E : Nat → Ent) (k j : Nat) (hj : j < 6) : (dirB cur n E k)[j]? = (headB cur n)[j]? := by
  induction k with
  | zero => rfl
  | succ k ih => rw [dirB, putE_eq, List.getElem?_append_left (by rw [dirB_len]; omega), ih]
theorem dirB_ent (cur : Bool) (n : Nat) (E : Nat → Ent) (k i t : Nat) (hi : i < k) (ht : t < 16) : (dirB cur n E k)[6 + 16 * i + t]? = (eB (E i))[t]? := by
  induction k with
  | zero => omega
  | succ k ih =>
    rw [dirB, putE_eq]
    by_cases hk : i < k
    · rw [List.getElem?_append_left (by rw [dirB_len]; omega), ih hk]
    · obtain rfl : i = k := by omega
      rw [List.getElem?_append_right (by rw [dirB_len]; omega), dirB_len, show 6 + 16 * i + t - (6 + 16 * i) = t by omega]
theorem byteAt_bd (v : Int) (j : Nat) : 0 ≤ byteAt v j ∧ byteAt v j < 256 := by unfold byteAt; omega
theorem headB_bd (cur : Bool) (n j : Nat) (x : Int) (h : (headB cur n)[j]? = some x) : 0 ≤ x ∧ x < 256 := by
  match j, h with
  | 0, h | 1, h | 2, h | 3, h | 4, h | 5, h => simp [headB] at h; subst h; exact byteAt_bd _ _
  | j + 6, h => simp [headB] at h
def dirS (cur : Bool) (n : Nat) (E : Nat → Ent) : ByteArray := strOf (dirB cur n E n)
theorem dirS_size (cur : Bool) (n : Nat) (E : Nat → Ent) : (dirS cur n E).size = 6 + 16 * n := by unfold dirS; rw [strOf_size2, dirB_len]
theorem dirS_head (cur : Bool) (n : Nat) (E : Nat → Ent) (j : Nat) (x : Int) (hj : j < 6) (h : (headB cur n)[j]? = some x) : byN (dirS cur n E) j = x :=
  byN_strOf2 _ _ _ ((dirB_head cur n E n j hj).trans h) (headB_bd cur n j x h).1 (headB_bd cur n j x h).2
theorem dirS_ent (cur : Bool) (n : Nat) (E : Nat → Ent) (i t : Nat) (v : Int) (b : Nat) (hi : i < n) (ht : t < 16) (h : (eB (E i))[t]? = some (byteAt v b)) : byN (dirS cur n E) (6 + 16 * i + t) = byteAt v b :=
  byN_strOf2 _ _ _ ((dirB_ent cur n E n i t hi ht).trans h) (byteAt_bd v b).1 (byteAt_bd v b).2
theorem right_bd {e : Ent} (h : e.right = true) : 1 ≤ e.W ∧ e.W ≤ 256 ∧ 1 ≤ e.H ∧ e.H ≤ 256 ∧ 0 ≤ e.A ∧ e.A < 65536 ∧ 0 ≤ e.B ∧ e.B < 65536 ∧ 0 ≤ e.Z ∧ e.Z < 4294967296 ∧ 0 ≤ e.P ∧ e.P < 4294967296 := by
  unfold Ent.right withinB at h
  simp only [Bool.and_eq_true, decide_eq_true_eq] at h
  have h16 : (2 : Int) ^ 16 = 65536 := by decide
  have h32 : (2 : Int) ^ 32 = 4294967296 := by decide
  rw [h16, h32] at h
  omega
theorem lowK_four (s : ByteArray) (a : Nat) : lowK s a 4 = byN s a + byN s (a + 1) * 256 + byN s (a + 2) * 65536 + byN s (a + 3) * 16777216 := by
  unfold lowK lowK lowK lowK lowK
  simp only [Nat.add_zero, Nat.mul_zero, Int.pow_zero, Int.mul_one, Int.zero_add, Nat.mul_one]
  rw [show (2 : Int) ^ 8 = 256 by decide, show (2 : Int) ^ (8 * 2) = 65536 by decide, show (2 : Int) ^ (8 * 3) = 16777216 by decide]
theorem byteAt0 (v : Int) : byteAt v 0 = v % 256 := by unfold byteAt; simp
theorem byteAt1 (v : Int) : byteAt v 1 = v / 256 % 256 := by unfold byteAt; rw [show (2 : Int) ^ (8 * 1) = 256 by decide]
theorem byteAt2 (v : Int) : byteAt v 2 = v / 65536 % 256 := by unfold byteAt; rw [show (2 : Int) ^ (8 * 2) = 65536 by decide]
theorem byteAt3 (v : Int) : byteAt v 3 = v / 16777216 % 256 := by unfold byteAt; rw [show (2 : Int) ^ (8 * 3) = 16777216 by decide]
/-- An entry that is right is told again. -/
theorem dirS_back (cur : Bool) (n : Nat) (E : Nat → Ent) (i : Nat) (hi : i < n) (h : (E i).right = true) : entE (dirS cur n E) (6 + 16 * i) = E i := by
  obtain ⟨w0, w1, h0, h1, a0, a1, b0, b1, z0, z1, p0, p1⟩ := right_bd h
  have g := fun t v b ht hh => dirS_ent cur n E i t v b hi ht hh
  have g0 := g 0 _ _ (by decide) rfl
  have g1 := g 1 _ _ (by decide) rfl
  have g4 := g 4 _ _ (by decide) rfl
  have g5 := g 5 _ _ (by decide) rfl
  have g6 := g 6 _ _ (by decide) rfl
  have g7 := g 7 _ _ (by decide) rfl
  have g8 := g 8 _ _ (by decide) rfl
  have g9 := g 9 _ _ (by decide) rfl
  have g10 := g 10 _ _ (by decide) rfl
  have g11 := g 11 _ _ (by decide) rfl
  have g12 := g 12 _ _ (by decide) rfl
  have g13 := g 13 _ _ (by decide) rfl
  have g14 := g 14 _ _ (by decide) rfl
  have g15 := g 15 _ _ (by decide) rfl
  rw [byteAt0] at g0 g1 g4 g6 g8 g12
  rw [byteAt1] at g5 g7 g9 g13
  rw [byteAt2] at g10 g14
  rw [byteAt3] at g11 g15
  unfold entE
  rw [lowK_two, lowK_two, lowK_four, lowK_four]
  simp only [Nat.add_zero, Nat.add_assoc, Nat.reduceAdd] at g0 g1 g4 g5 g6 g7 g8 g9 g10 g11 g12 g13 g14 g15 ⊢
  rw [g0, g1, g4, g5, g6, g7, g8, g9, g10, g11, g12, g13, g14, g15]
  generalize E i = e at *
  obtain ⟨W, H, A, B, Z, P⟩ := e
  simp only [Ent.mk.injEq]
  simp only at w0 w1 h0 h1 a0 a1 b0 b1 z0 z1 p0 p1
  refine ⟨?_, ?_, ?_, ?_, ?_, ?_⟩
  · unfold sideI; split <;> omega
  · unfold sideI; split <;> omega
  all_goals omega
/-- What stands ahead of the entries. -/
theorem dirS_front (cur : Bool) (n : Nat) (E : Nat → Ent) (hn : n < 65536) : byN (dirS cur n E) 0 = 0 ∧ byN (dirS cur n E) 1 = 0 ∧ byN (dirS cur n E) 2 = (bif cur then 2 else 1) ∧ byN (dirS cur n E) 3 = 0 ∧ lowK (dirS cur n E) 4 2 = n ∧ byN (dirS cur n E) 4 = (n : Int) % 256 ∧ byN (dirS cur n E) 5 = (n : Int) / 256 % 256 := by
  have g := fun j x hj hh => dirS_head cur n E j x hj hh
  have g0 := g 0 _ (by decide) rfl
  have g1 := g 1 _ (by decide) rfl
  have g2 := g 2 _ (by decide) rfl
  have g3 := g 3 _ (by decide) rfl
  have g4 := g 4 _ (by decide) rfl
  have g5 := g 5 _ (by decide) rfl
  rw [byteAt0] at g0 g2 g4
  rw [byteAt1] at g1 g3 g5
  refine ⟨by simpa using g0, by simpa using g1, by rw [g2]; cases cur <;> rfl, by rw [g3]; cases cur <;> rfl, ?_, g4, g5⟩
  rw [lowK_two, g4, g5]
  omega
theorem dirS_ico (cur : Bool) (n : Nat) (E : Nat → Ent) (h0 : 0 < n) (hn : n < 65536) : isIco (dirS cur n E) = true := by
  obtain ⟨f0, f1, f2, f3, -, f4, f5⟩ := dirS_front cur n E hn
  have f9 : byN (dirS cur n E) 9 = 0 := by
    have := dirS_ent cur n E 0 3 0 1 h0 (by decide) rfl
    rw [byteAt1] at this
    simpa using this
  rw [isIco_eq _ (by rw [dirS_size]; omega), f0, f1, f2, f3, f4, f5, f9]
  have : ((n : Int) % 256 != 0 || (n : Int) / 256 % 256 != 0) = true := by rw [Bool.or_eq_true]; simp; omega
  rw [this]
  cases cur <;> rfl
end Go.Proofs.Ytomikbecbbjhoaa

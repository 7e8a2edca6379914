/- Directories that are read by the program and by the document are the same. Plain. -/
import Derived.Test.YtomikbecbbjhoaaI8
import Derived.Test.YtomikbecbbjhoaaN4
namespace Go.Proofs.Ytomikbecbbjhoaa
open Go.RowKit
set_option linter.unusedVariables false
set_option linter.unusedSimpArgs false
theorem ext_app2 (a s : ByteArray) (q n : Nat) : (a ++ s).extract (a.size + q) (a.size + q + n) = s.extract q (q + n) := by
  apply ByteArray.ext
  simp [ByteArray.data_extract, ByteArray.data_append, Nat.add_assoc]
def lj (j : Int) : Led := { Led.new 0 0 0 1000 with st := j }
theorem lj_work (j : Int) (h : j < 1000) : (lj j).work 1 = (lj (j + 1), true) := by
  unfold Led.work lj
  rw [if_neg (by exact Bool.false_ne_true), if_neg (by show ¬ ((1 : Int) < 0 ∨ max (1000 : Int) 0 - j < 1); omega)]
def xj (L : Nat) (a s : ByteArray) (p : Nat) : Sr := ⟨L, a ++ s, 0, (a ++ s).size, p⟩
theorem next_j (L : Nat) (a s : ByteArray) (q n : Nat) (j : Int) (hj : j < 1000) : (xj L a s (a.size + q)).next (lj j) n =
    if q + n ≤ s.size then ((xj L a s (a.size + q + n), lj (j + 1)), (s.extract q (q + n), true)) else ((xj L a s (a.size + q), lj (j + 1)), (ByteArray.empty, false)) := by
  have hz : (a ++ s).size = a.size + s.size := ByteArray.size_append
  unfold Sr.next
  rw [lj_work j hj]
  by_cases h : q + n ≤ s.size
  · rw [if_pos h, if_pos ⟨rfl, by omega, by simp only [xj, hz]; omega⟩]
    simp only [xj, Int.toNat_natCast, ext_app2]
  · rw [if_neg h, if_neg (by simp only [xj, hz]; omega)]
theorem entE_ext (s : ByteArray) (a n : Nat) (h : a + 16 ≤ n) (hn : n ≤ s.size) : entE (s.extract a n) 0 = entE s a := by
  unfold entE
  rw [byN_ext s a n 0 (by omega) hn, byN_ext s a n (0 + 1) (by omega) hn, lowK_ext s a n (0 + 4) 2 (by omega) hn, lowK_ext s a n (0 + 6) 2 (by omega) hn, lowK_ext s a n (0 + 8) 4 (by omega) hn, lowK_ext s a n (0 + 12) 4 (by omega) hn]
  simp only [Nat.zero_add, Nat.add_zero]
theorem beats_eq (e d : Ent) (cur : Bool) : e.beats d cur = rBeats e d cur := by
  unfold Ent.beats betterB rBeats
  generalize e.W * e.H = p
  generalize d.W * d.H = q
  by_cases h : p = q
  · subst h; cases cur <;> simp
  · have h1 : (p != q) = true := by simpa using h
    have h2 : (p == q) = false := by simpa using h
    rw [h1, h2]; simp
def FaultAt (a : ByteArray) (f : List Value) (r : List Value) (M : Nat) : Prop := ∃ k p : Int, (k = 1 ∨ k = 2) ∧ 0 ≤ p ∧ p ≤ M ∧ f = [.int .i64 k, .int .i64 4, .int .i64 (a.size + p)] ∧ r = rBad k p
theorem loops_eq (L : Nat) (a s : ByteArray) (N : Nat) (cur : Bool) (hs : s.size ≤ 600) : ∀ (k i : Nat) (b : Int) (E : Ent), i + k = N → 6 + 16 * i ≤ s.size → E.ok →
    (∃ f, (iLoop N s.size cur k i (xj L a s (a.size + (6 + 16 * i))) (lj (i + 1)) b E).f = some f ∧ FaultAt a f (rLoop s N cur k i b E) 200000) ∨
    (∃ b' e', iLoop N s.size cur k i (xj L a s (a.size + (6 + 16 * i))) (lj (i + 1)) b E = ⟨xj L a s (a.size + (6 + 16 * N)), lj (N + 1), none, b', e'⟩ ∧ rLoop s N cur k i b E = rDir cur N b' e' 0 0 ∧ e'.ok)
  | 0, i, b, E, h, hi, hE => by
    obtain rfl : i = N := by omega
    exact Or.inr ⟨b, E, rfl, rfl, hE⟩
  | k + 1, i, b, E, h, hi, hE => by
    have hn := next_j L a s (6 + 16 * i) 16 (i + 1) (by omega)
    have hz : (a ++ s).size = a.size + s.size := ByteArray.size_append
    by_cases hsz : s.size < 22 + 16 * i
    · left
      rw [if_neg (by omega)] at hn
      rw [iLoop_no hn, rLoop, if_pos hsz]
      refine ⟨_, rfl, 1, s.size, Or.inl rfl, by omega, by omega, ?_, rfl⟩
      unfold faultL
      rw [if_neg (by exact Bool.false_ne_true)]
      simp only [xj, hz]
      rfl
    · rw [if_pos (by omega)] at hn
      rw [iLoop_yes hn (entE_ext s (6 + 16 * i) (6 + 16 * i + 16) (by omega) (by omega)), rLoop, if_neg hsz]
      have eok := entE_ok s (6 + 16 * i)
      obtain ⟨e, he⟩ : ∃ e, entE s (6 + 16 * i) = e := ⟨_, rfl⟩
      rw [he] at eok ⊢
      have z0 := eok.z0
      have hc : (decide (e.P < 6 + 16 * (N : Int)) || decide (e.P > (s.size : Int)) || decide (e.Z > (s.size : Int) - e.P)) = (decide (e.P < 6 + 16 * (N : Int)) || decide (e.P + e.Z > (s.size : Int))) := by
        rw [Bool.eq_iff_iff]; simp only [Bool.or_eq_true, decide_eq_true_eq]; omega
      rw [hc, beats_eq]
      cases hb : (decide (e.P < 6 + 16 * (N : Int)) || decide (e.P + e.Z > (s.size : Int))) with
      | true =>
        left
        refine ⟨_, rfl, 2, 6 + 16 * (i : Int) + 12, Or.inr rfl, by omega, by omega, ?_, rfl⟩
        simp only [xj]
        rw [show ((a.size + (6 + 16 * i) : Nat) : Int) + 12 = (a.size : Int) + (6 + 16 * (i : Int) + 12) by omega]
      | false =>
        have hstep : a.size + (6 + 16 * i) + 16 = a.size + (6 + 16 * (i + 1)) := by omega
        have hci : ((i : Int) + 1) = ((i + 1 : Nat) : Int) := by omega
        simp only [cond_false]
        rw [hstep, hci]
        cases ht : ((i : Int) == 0 || rBeats e E cur) with
        | true => exact loops_eq L a s N cur hs k (i + 1) i e (by omega) (by omega) eok
        | false => exact loops_eq L a s N cur hs k (i + 1) b E (by omega) (by omega) hE
theorem iLoop_L (N A : Int) (cur : Bool) : ∀ (k : Nat) (i : Int) (y : Sr) (m : Led) (b : Int) (E : Ent), (iLoop N A cur k i y m b E).y.L = y.L
  | 0, i, y, m, b, E => rfl
  | k + 1, i, y, m, b, E => by
    have hL := next_L y m 16
    obtain ⟨⟨⟨y', m'⟩, ⟨s, ok⟩⟩, hnx⟩ : ∃ r, y.next m 16 = r := ⟨_, rfl⟩
    rw [hnx] at hL
    simp only at hL
    cases ok with
    | false => rw [iLoop_no hnx]; exact hL
    | true =>
      rw [iLoop_yes hnx rfl]
      generalize entE s 0 = e
      cases (decide (e.P < 6 + 16 * N) || decide (e.P > A) || decide (e.Z > A - e.P)) with
      | true => exact hL
      | false =>
        cases (i == 0 || e.beats E cur) with
        | true => exact (iLoop_L N A cur k _ y' m' _ _).trans hL
        | false => exact (iLoop_L N A cur k _ y' m' _ _).trans hL
theorem reads_eq (L : Nat) (a s : ByteArray) (hs : s.size ≤ 600) :
    (∃ f y m, dRead (xj L a s a.size) (lj 0) = ((zero9, f), (y, m)) ∧ y.L = L ∧ FaultAt a f (rRes24 s) 200000) ∨
    (∃ (cur : Bool) (n : Nat) (b : Int) (e : Ent) (y : Sr) (m : Led), dRead (xj L a s a.size) (lj 0) = ((dCells cur n b { e with P := e.P + (a.size : Int) }, [.int .i64 0, .int .i64 0, .int .i64 0]), (y, m)) ∧ y.L = L ∧ y.p = a.size + (6 + 16 * n) ∧ n ≤ 65535 ∧ rRes24 s = rDir cur n b e 0 0 ∧ e.ok) := by
  have hz : (a ++ s).size = a.size + s.size := ByteArray.size_append
  have hn := next_j L a s 0 6 0 (by decide)
  simp only [Nat.add_zero, Nat.zero_add] at hn
  have hn : (xj L a s a.size).next (lj 0) 6 = _ := hn
  by_cases h : s.size < 6
  · left
    rw [if_neg (by omega)] at hn
    refine ⟨[.int .i64 1, .int .i64 4, .int .i64 ((a.size : Int) + s.size)], xj L a s a.size, lj (0 + 1), ?_, rfl, 1, s.size, Or.inl rfl, by omega, by omega, rfl, by unfold rRes24; rw [if_pos h]⟩
    unfold dRead bGood bRead
    rw [hn]
    simp only [Bool.false_and, cond_false, Bool.false_eq_true, if_false]
    unfold faultL
    rw [if_neg (by exact Bool.false_ne_true)]
    simp only [xj, hz]
    rfl
  rw [if_pos (by omega)] at hn
  have e02 := lowK_ext s 0 6 0 2 (by omega) (by omega)
  have e22 := lowK_ext s 0 6 2 2 (by omega) (by omega)
  have e42 := lowK_ext s 0 6 4 2 (by omega) (by omega)
  have eb2 := byN_ext s 0 6 2 (by omega) (by omega)
  simp only [Nat.zero_add] at e02 e22 e42 eb2
  have nb := lowK2_bd s 4
  have tb := lowK2_bd s 2
  have y0 := byN_bd s 0
  have y1 := byN_bd s 1
  have y2 := byN_bd s 2
  have y3 := byN_bd s 3
  have c02 : (lowK s 0 2 != 0) = ((byN s 0 != 0) || (byN s 1 != 0)) := by
    rw [lowK_two, Bool.eq_iff_iff]; simp; omega
  have ct : (decide (lowK s 2 2 < 1) || decide (lowK s 2 2 > 2)) = ((lowK s 2 2 != 1) && (lowK s 2 2 != 2)) := by
    rw [Bool.eq_iff_iff]; simp; omega
  have hcur : (lowK s 2 2 = 1 ∨ lowK s 2 2 = 2) → (byN s 2 == 2) = (lowK s 2 2 == 2) := by
    intro ht
    rw [lowK_two] at ht ⊢
    simp only [Nat.reduceAdd] at ht ⊢
    rw [Bool.eq_iff_iff]; simp; omega
  have hR : rRes24 s = bif (byN s 0 != 0) || (byN s 1 != 0) then rBad 2 0 else bif (lowK s 2 2 != 1) && (lowK s 2 2 != 2) then rBad 2 2 else bif lowK s 4 2 == 0 then rBad 2 4 else rLoop s (lowK s 4 2) (lowK s 2 2 == 2) (lowK s 4 2).toNat 0 0 Ent.zero := by
    unfold rRes24; rw [if_neg h]
  have hD : dRead (xj L a s a.size) (lj 0) = bif (byN s 0 != 0) || (byN s 1 != 0) then ((zero9, [.int .i64 2, .int .i64 4, .int .i64 (a.size : Int)]), (xj L a s (a.size + 6), lj (0 + 1))) else
      bif (lowK s 2 2 != 1) && (lowK s 2 2 != 2) then ((zero9, [.int .i64 2, .int .i64 4, .int .i64 ((a.size : Int) + 2)]), (xj L a s (a.size + 6), lj (0 + 1))) else
      bif lowK s 4 2 == 0 then ((zero9, [.int .i64 2, .int .i64 4, .int .i64 ((a.size : Int) + 4)]), (xj L a s (a.size + 6), lj (0 + 1))) else
      (match (dRun (xj L a s a.size) (lj 0)).f with
       | some F => ((zero9, F), ((dRun (xj L a s a.size) (lj 0)).y, (dRun (xj L a s a.size) (lj 0)).m))
       | none => ((dCells (byN s 2 == 2) (lowK s 4 2) (dRun (xj L a s a.size) (lj 0)).b { (dRun (xj L a s a.size) (lj 0)).e with P := (dRun (xj L a s a.size) (lj 0)).e.P + (a.size : Int) }, [.int .i64 0, .int .i64 0, .int .i64 0]), ((dRun (xj L a s a.size) (lj 0)).y, (dRun (xj L a s a.size) (lj 0)).m))) := by
    unfold dRead bGood bRead
    rw [hn]
    simp only [e02, e22, e42, eb2, c02, ct, Bool.true_and, if_true]
    cases ((byN s 0 != 0) || (byN s 1 != 0)) <;> cases ((lowK s 2 2 != 1) && (lowK s 2 2 != 2)) <;> cases (lowK s 4 2 == 0) <;> rfl
  cases h0 : ((byN s 0 != 0) || (byN s 1 != 0)) with
  | true => rw [h0] at hR hD; exact Or.inl ⟨_, _, _, hD, rfl, 2, 0, Or.inr rfl, by omega, by omega, by rw [Int.add_zero], hR⟩
  | false =>
    cases h1 : ((lowK s 2 2 != 1) && (lowK s 2 2 != 2)) with
    | true => rw [h0, h1] at hR hD; exact Or.inl ⟨_, _, _, hD, rfl, 2, 2, Or.inr rfl, by omega, by omega, rfl, hR⟩
    | false =>
      cases h2 : (lowK s 4 2 == 0) with
      | true => rw [h0, h1, h2] at hR hD; exact Or.inl ⟨_, _, _, hD, rfl, 2, 4, Or.inr rfl, by omega, by omega, rfl, hR⟩
      | false =>
        rw [h0, h1, h2] at hR hD
        simp only [cond_false] at hR hD
        have hcc := hcur (by by_cases q : lowK s 2 2 = 1; · exact Or.inl q
                             by_cases q2 : lowK s 2 2 = 2; · exact Or.inr q2
                             simp [q, q2] at h1)
        obtain ⟨n, hnn⟩ : ∃ n : Nat, lowK s 4 2 = n := ⟨_, (Int.toNat_of_nonneg nb.1).symm⟩
        have hrun : dRun (xj L a s a.size) (lj 0) = iLoop n s.size (lowK s 2 2 == 2) n 0 (xj L a s (a.size + 6)) (lj (0 + 1)) 0 Ent.zero := by
          unfold dRun
          rw [hn]
          simp only [e42, eb2, hcc, hnn]
          rw [show (((xj L a s a.size).e : Int) - (xj L a s a.size).p) = (s.size : Int) by simp only [xj, hz]; omega, show ((n : Int)).toNat = n by omega]
        rw [hnn, show ((n : Int)).toNat = n by omega] at hR
        rw [hcc, hnn] at hD
        have hLL : (dRun (xj L a s a.size) (lj 0)).y.L = L := by rw [hrun, iLoop_L]; rfl
        rcases loops_eq L a s n (lowK s 2 2 == 2) hs n 0 0 Ent.zero (by omega) (by omega) Ent.zero_ok with ⟨f, hf, hfa⟩ | ⟨b', e', hl, hr, hok⟩
        · left
          have hf' : (dRun (xj L a s a.size) (lj 0)).f = some f := by rw [hrun]; exact hf
          rw [hf'] at hD
          exact ⟨f, _, _, hD, hLL, by rw [hR]; exact hfa⟩
        · right
          have hl' : dRun (xj L a s a.size) (lj 0) = ⟨xj L a s (a.size + (6 + 16 * n)), lj (n + 1), none, b', e'⟩ := by rw [hrun]; exact hl
          rw [hl'] at hD
          exact ⟨_, n, b', e', _, _, hD, rfl, rfl, by omega, by rw [hR]; exact hr, hok⟩
end Go.Proofs.Ytomikbecbbjhoaa

/- What Pack writes is read as the rows, upside down: plain. -/
import Derived.Test.YtlhcjnjajkfahaaK8
namespace Go.Proofs.Ytlhcjnjajkfahaa
open Go.RowKit
set_option linter.unusedVariables false
set_option linter.unusedSimpArgs false
def colV (v : Int) : List Value := [.int .u8 0, .int .u8 0, .int .u8 v, .int .u8 255]
theorem colT_len (m : Nat) : (colT m).length = 4 * m := by
  induction m with
  | zero => rfl
  | succ m ih => rw [colT, List.length_append, ih]; simp; omega
theorem colT_all (m : Nat) : ∀ u ∈ colT m, u.oneCell' = true := by
  induction m with
  | zero => intro u hu; cases hu
  | succ m ih =>
    intro u hu
    rw [colT] at hu
    rcases List.mem_append.1 hu with hu | hu
    · exact ih u hu
    · simp at hu; rcases hu with rfl | rfl | rfl <;> rfl
theorem pxC_get (L : List Value) (k j : Nat) (hj : j < 4) : (pxC L k)[j]? = L[4 * k + j]? := by
  unfold pxC; rw [List.getElem?_take, if_pos hj, List.getElem?_drop]
theorem pxC_ext {A B : List Value} {k m : Nat} (h : ∀ j, j < 4 → A[4 * k + j]? = B[4 * m + j]?) : pxC A k = pxC B m := by
  apply List.ext_getElem?
  intro i
  by_cases hi : i < 4
  · rw [pxC_get _ _ _ hi, pxC_get _ _ _ hi, h i hi]
  · unfold pxC; rw [List.getElem?_take, List.getElem?_take, if_neg hi, if_neg hi]
theorem pxC_colT (M k : Nat) (h : k < M) : pxC (colT M) k = colV k := by
  induction M with
  | zero => omega
  | succ M ih =>
    have hl := colT_len M
    by_cases hk : k < M
    · rw [← ih hk]
      refine pxC_ext fun j hj => ?_
      rw [colT, List.getElem?_append_left (by omega)]
    · obtain rfl : k = M := by omega
      unfold pxC
      rw [colT, List.drop_append_of_le_length (by omega), List.drop_of_length_le (by omega)]
      rfl
theorem pxC_putC (L : List Value) (q n k : Nat) (p : List Value) (hp : p.length = 4 * n) (h : 4 * q + p.length ≤ L.length) : pxC (putC L (4 * q) p) k = if q ≤ k ∧ k < q + n then pxC p (k - q) else pxC L k := by
  by_cases hk : q ≤ k ∧ k < q + n
  · rw [if_pos hk]
    refine pxC_ext fun j hj => ?_
    rw [putC_get _ _ _ h, if_pos (by omega)]; congr 1; omega
  · rw [if_neg hk]
    refine pxC_ext fun j hj => ?_
    rw [putC_get _ _ _ h, if_neg (by omega)]
def repV (v : Int) : Nat → List Value
  | 0 => []
  | n + 1 => repV v n ++ colV v
theorem repV_len (v : Int) (n : Nat) : (repV v n).length = 4 * n := by
  induction n with
  | zero => rfl
  | succ n ih => rw [repV, List.length_append, ih]; simp [colV]; omega
theorem repV_px (v : Int) (n k : Nat) (h : k < n) : pxC (repV v n) k = colV v := by
  induction n with
  | zero => omega
  | succ n ih =>
    have hl := repV_len v n
    by_cases hk : k < n
    · rw [← ih hk]
      refine pxC_ext fun j hj => ?_
      rw [repV, List.getElem?_append_left (by omega)]
    · obtain rfl : k = n := by omega
      unfold pxC
      rw [repV, List.drop_append_of_le_length (by omega), List.drop_of_length_le (by omega)]
      rfl
theorem runP_rep (M : Nat) (b d v : Int) (pl : Nat) (hv : 0 ≤ v) (hM : v < M) (he : ∀ i, entR b d i = v) (n : Nat) : runP (colT M) M b d pl n = .ok (repV v n) := by
  induction n with
  | zero => rfl
  | succ n ih =>
    rw [runP, ih]
    simp only [he]
    rw [if_pos (by omega), repV, pxC_colT M _ (by omega)]
    simp only [colV]
    rw [show ((v.toNat : Nat) : Int) = v by omega]
def ImgI (l : List Int) (W R i : Nat) (L : List Value) : Prop := L.length = 4 * (W * R) ∧ ∀ j, j < i → pxC L ((R - 1 - j / W) * W + j % W) = colV (l.getD j 0)
theorem img_more {l : List Int} {W R i n : Nat} {L : List Value} (hW : 1 ≤ W) (h : ImgI l W R i L) (hn : i % W + n ≤ W) (hi : i / W < R) (hv : ∀ j, j < n → l.getD (i + j) 0 = l.getD i 0) :
    ImgI l W R (i + n) (putC L (4 * ((R - 1 - i / W) * W + i % W)) (repV (l.getD i 0) n)) := by
  obtain ⟨h1, h2⟩ := h
  have hr := repV_len (l.getD i 0) n
  have hp := place_in (W := W) (H := R) (x := i % W) (y := i / W) (n := n) hi hn
  refine ⟨by rw [putC_len _ _ _ (by rw [hr, h1]; omega)]; exact h1, ?_⟩
  intro j hj
  rw [pxC_putC _ _ n _ _ hr (by rw [hr, h1]; omega)]
  have e1 := Nat.div_add_mod i W
  have e2 := Nat.div_add_mod j W
  have m1 := Nat.mod_lt i hW
  have m2 := Nat.mod_lt j hW
  by_cases hji : j < i
  · have key : ¬ ((R - 1 - i / W) * W + i % W ≤ (R - 1 - j / W) * W + j % W ∧ (R - 1 - j / W) * W + j % W < (R - 1 - i / W) * W + i % W + n) := by
      have hd : j / W ≤ i / W := Nat.div_le_div_right (by omega)
      by_cases hs : j / W = i / W
      · rw [hs] at e2 ⊢; omega
      · have h3 : (R - 1 - i / W + 1) * W ≤ (R - 1 - j / W) * W := Nat.mul_le_mul_right W (by omega)
        rw [Nat.add_mul, Nat.one_mul] at h3
        omega
    rw [if_neg key]; exact h2 j hji
  · have hd : j / W = i / W := by
      have h3 : i / W ≤ j / W := Nat.div_le_div_right (by omega)
      have h4 : j / W < i / W + 1 := by
        rw [Nat.div_lt_iff_lt_mul hW, Nat.add_mul, Nat.one_mul, Nat.mul_comm]; omega
      omega
    rw [hd] at e2 ⊢
    rw [if_pos (by omega), repV_px _ _ _ (by omega)]
    have := hv (j - i) (by omega)
    rw [show i + (j - i) = j by omega] at this
    rw [this]
theorem rle_back (l : List Int) (W R M te : Nat) (d : Int) (s : ByteArray) (hW : 1 ≤ W) (hl : l.length = R * W) (hM : (d = 4 ∧ M = 16) ∨ (d = 8 ∧ M = 256)) (hv : ∀ j, j < l.length → 0 ≤ l.getD j 0 ∧ l.getD j 0 < M) :
    ∀ k i (σ : S22) (f : Nat), l.length ≤ i + k → i ≤ l.length → σ.y = i / W → σ.x = i % W → ImgI l W R i σ.L → (∀ j, j < (encA l W d i).length → byN s (σ.pl + j) = (encA l W d i).getD j 0) → te = σ.pl + (encA l W d i).length → te < σ.pl + f →
      ∃ L', rle22 s (colT M) M W R d te f σ = .ok L' ∧ ImgI l W R l.length L' := by
  intro k
  induction k with
  | zero =>
    intro i σ f h1 h2 hy hx hI hb hto hf
    obtain rfl : i = l.length := by omega
    rw [encA_end _ _ _ _ (Nat.le_refl _)] at hb hto
    match f, hf with
    | 0, hf => simp at hto; omega
    | f + 1, hf =>
      have b0 := hb 0 (by decide)
      have b1 := hb 1 (by decide)
      have b0' : byN s σ.pl = 0 := b0
      have b1' : byN s (σ.pl + 1) = 1 := b1
      have hto' : te = σ.pl + 2 := hto
      exact ⟨σ.L, by rw [rle22, if_neg (by omega), if_pos ⟨b0', b1'⟩], hI⟩
  | succ k ih =>
    intro i σ f h1 h2 hy hx hI hb hto hf
    by_cases hi : i < l.length
    rotate_left
    · exact ih i σ f (by omega) h2 hy hx hI hb hto hf
    obtain ⟨e, he⟩ : ∃ e, rowEnd W i = e := ⟨_, rfl⟩
    have hre := rowEnd_bd W i hW
    have hei := rowEnd_in W R i l.length hl hi hW
    have hleft := rowEnd_left W i hW
    have hst := encA_step l W d i hi
    rw [he] at hre hei hleft hst
    obtain ⟨n, hn⟩ : ∃ n, nRun l i e = n := ⟨_, rfl⟩
    have hn1 := nRun_pos l i e
    have hn2 := nRun_le l i e hre.1 hei
    have hn3 := fun j hj => nRun_in l i e j hre.1 hei hj
    rw [hn] at hn1 hn2 hn3 hst
    obtain ⟨v, hvv⟩ : ∃ v, l.getD i 0 = v := ⟨_, rfl⟩
    have hvb := hv i hi
    have hm := Nat.mod_lt i hW
    have hyR : i / W < R := by rw [Nat.div_lt_iff_lt_mul hW, ← hl]; exact hi
    have himg := img_more (n := n) hW hI (by omega) hyR hn3
    rw [hvv] at hst hvb himg
    have hbn : ∀ j x, (encA l W d i)[j]? = some x → byN s (σ.pl + j) = x := by
      intro j x hj
      have h3 : j < (encA l W d i).length := (List.getElem?_eq_some_iff.1 hj).1
      rw [hb j h3, List.getD_eq_getElem?_getD, hj]; rfl
    have b0 : byN s σ.pl = n := hbn 0 n (by rw [hst]; rfl)
    have b1 : byN s (σ.pl + 1) = pairV d v := hbn 1 _ (by rw [hst]; rfl)
    have hent : ∀ t, entR (pairV d v) d t = v := by
      intro t
      rcases hM with ⟨rfl, rfl⟩ | ⟨rfl, rfl⟩
      · show (if (4 : Int) = 8 then 17 * v else if t % 2 = 0 then 17 * v / 16 else 17 * v % 16) = v
        rw [if_neg (by decide)]; split <;> omega
      · rfl
    have hlen2 : (encA l W d i).length = 2 + (((if i + n = e then [0, 0] else []) : List Int).length + (encA l W d (i + n)).length) := by
      rw [hst, List.length_append, List.length_append]; rfl
    have htl : ∀ m, 1 ≤ m → 1 ≤ (encA l W d m).length := by
      intro m hm
      by_cases h5 : m < l.length
      · rw [encA_step l W d m h5, List.length_append]; show 1 ≤ 2 + _; omega
      · rw [encA_end l W d m (by omega)]; decide
    match f, hf with
    | 0, hf => omega
    | f + 1, hf =>
      have hstep : step22 s (colT M) M W R d te σ = .ok ⟨σ.x + n, σ.y, σ.pl + 2, putC σ.L (4 * ((R - 1 - σ.y) * W + σ.x)) (repV v n)⟩ := by
        unfold step22
        rw [if_pos (by rw [b0]; omega), b0]
        unfold run22
        rw [if_neg (by omega), b1, show ((n : Int)).toNat = n from rfl, runP_rep M _ d v σ.pl hvb.1 hvb.2 hent n]
      have hr1 : rle22 s (colT M) M W R d te (f + 1) σ = rle22 s (colT M) M W R d te f ⟨σ.x + n, σ.y, σ.pl + 2, putC σ.L (4 * ((R - 1 - σ.y) * W + σ.x)) (repV v n)⟩ := by
        rw [rle22, if_neg (by omega), if_neg (by rw [b0]; omega), hstep]
      rw [hr1, hy, hx]
      have ei := Nat.div_add_mod i W
      by_cases hend : i + n = e
      · rw [if_pos hend] at hst hlen2
        have b2 : byN s (σ.pl + 2) = 0 := hbn 2 0 (by rw [hst]; rfl)
        have b3 : byN s (σ.pl + 2 + 1) = 0 := hbn 3 0 (by rw [hst]; rfl)
        have h6 : (encA l W d i).length = 4 + (encA l W d (i + n)).length := by rw [hlen2]; simp; omega
        have h7 := htl (i + n) (by omega)
        have hq : i + n = (i / W + 1) * W := by rw [hend, ← he]; rfl
        match f, hf with
        | 0, hf => omega
        | f + 1, hf =>
          have hstep2 : step22 s (colT M) M W R d te ⟨i % W + n, i / W, σ.pl + 2, putC σ.L (4 * ((R - 1 - i / W) * W + i % W)) (repV v n)⟩ = .ok ⟨0, i / W + 1, σ.pl + 4, putC σ.L (4 * ((R - 1 - i / W) * W + i % W)) (repV v n)⟩ := by
            unfold step22
            rw [if_neg (by show ¬ 0 < byN s (σ.pl + 2); rw [b2]; decide), if_neg (by show ¬ 2 < byN s (σ.pl + 2 + 1); rw [b3]; decide), if_pos b3]
            unfold move22
            rw [if_neg (by show ¬ (W < 0 ∨ R < i / W + 1); omega)]
          have hr2 : rle22 s (colT M) M W R d te (f + 1) ⟨i % W + n, i / W, σ.pl + 2, putC σ.L (4 * ((R - 1 - i / W) * W + i % W)) (repV v n)⟩ = rle22 s (colT M) M W R d te f ⟨0, i / W + 1, σ.pl + 4, putC σ.L (4 * ((R - 1 - i / W) * W + i % W)) (repV v n)⟩ := by
            rw [rle22, if_neg (by show ¬ te < σ.pl + 2 + 2; omega), if_neg (by intro hh; have h8 : byN s (σ.pl + 2 + 1) = 1 := hh.2; rw [b3] at h8; exact absurd h8 (by decide)), hstep2]
          rw [hr2]
          refine ih (i + n) _ f (by omega) (by omega) ?_ ?_ himg ?_ ?_ ?_
          · show i / W + 1 = (i + n) / W; rw [hq, Nat.mul_div_cancel _ hW]
          · show 0 = (i + n) % W; rw [hq, Nat.mul_mod_left]
          · intro j hj
            show byN s (σ.pl + 4 + j) = _
            rw [Nat.add_assoc]
            refine hbn (4 + j) _ ?_
            rw [hst]
            show ([(n : Int), pairV d v] ++ ([0, 0] ++ encA l W d (i + n)))[4 + j]? = _
            rw [← List.append_assoc, List.getElem?_append_right (by simp), show 4 + j - ([(n : Int), pairV d v] ++ [0, 0] : List Int).length = j by simp, List.getD_eq_getElem?_getD, List.getElem?_eq_getElem hj]; rfl
          · show te = σ.pl + 4 + _; omega
          · show te < σ.pl + 4 + f; omega
      · rw [if_neg hend, List.nil_append] at hst
        rw [if_neg hend] at hlen2
        have h6 : (encA l W d i).length = 2 + (encA l W d (i + n)).length := by rw [hlen2]; simp
        have hlt : i % W + n < W := by omega
        have hq : i + n = W * (i / W) + (i % W + n) := by omega
        refine ih (i + n) _ f (by omega) (by omega) ?_ ?_ himg ?_ ?_ ?_
        · show i / W = (i + n) / W; rw [hq, Nat.mul_add_div (by omega), Nat.div_eq_of_lt hlt, Nat.add_zero]
        · show i % W + n = (i + n) % W; rw [hq, Nat.mul_add_mod, Nat.mod_eq_of_lt hlt]
        · intro j hj
          show byN s (σ.pl + 2 + j) = _
          rw [Nat.add_assoc]
          refine hbn (2 + j) _ ?_
          rw [hst, List.getElem?_append_right (by simp), show 2 + j - ([(n : Int), pairV d v] : List Int).length = j by simp, List.getD_eq_getElem?_getD, List.getElem?_eq_getElem hj]; rfl
        · show te = σ.pl + 2 + _; omega
        · show te < σ.pl + 2 + f; omega
end Go.Proofs.Ytlhcjnjajkfahaa


/- Layer 22's head of a file, walked. -/
import Derived.Test.YtlfbaggcfaenlaaGreatK31
import Derived.Test.YtlfbaggcfaenlaaGreatK10
import Derived.Test.YtlfbaggcfaenlaaGreatK0
namespace Go.Proofs.YtlfbaggcfaenlaaGreat
open Go.RowKit
set_option linter.unusedVariables false
set_option linter.unusedSimpArgs false
theorem owns_blockK (w : World) (L : List Int) (T : TypeId) (n : Nat) (hn : L.length = n) (hm : n ≤ maxLen) : (w.alloc (.cells ((L.map (Value.int .u8)).toArray) T)).ownsRow w.heap.size T 1 (.slice (some ⟨w.heap.size, 0, none⟩) n n) n (L.map (.int .u8)) := by
  subst hn
  exact ⟨by simp, Or.inr ⟨w.heap.size, L.length, (L.map (Value.int .u8)).toArray, rfl, Nat.le_refl _, heap_alloc_new w _, Nat.le_refl _, hm, by simp, by simp [List.take_of_length_le]⟩⟩
end Go.Proofs.YtlfbaggcfaenlaaGreat
namespace Go.Proofs.YtlfbaggcfaenlaaGreat
open Go.RowKit
theorem mod_succ (x : Int) (j : Nat) : x % 2 ^ (j + 1) = x % 2 ^ j + 2 ^ j * (x / 2 ^ j % 2) := by
  have h1 := Int.mul_ediv_add_emod x (2 ^ j)
  have h2 := Int.mul_ediv_add_emod (x / 2 ^ j) 2
  have h3 := Int.mul_ediv_add_emod x (2 ^ (j + 1))
  rw [div_pow_succ, pow_succ'] at h3
  rw [pow_succ']
  have e : 2 ^ j * (x / 2 ^ j) = 2 * 2 ^ j * (x / 2 ^ j / 2) + 2 ^ j * (x / 2 ^ j % 2) := by
    conv => lhs; rw [← h2]
    rw [Int.mul_add, ← Int.mul_assoc, Int.mul_comm (2 ^ j) 2]
  omega
theorem div_div_pow (x : Int) (a b : Nat) : x / 2 ^ a / 2 ^ b = x / 2 ^ (a + b) := by rw [Int.ediv_ediv_of_nonneg (Int.le_of_lt (pow_pos' _)), Int.pow_add]
theorem bitB_iff (x : Int) (i : Nat) : bitB x i = true ↔ x / 2 ^ i % 2 = 1 := by unfold bitB; simp
theorem bitB_not (x : Int) (i : Nat) : bitB x i = false ↔ x / 2 ^ i % 2 = 0 := by unfold bitB; simp; omega
structure Shape (m : Int) (s b : Nat) : Prop where
  low : ∀ i, i < s → bitB m i = false
  one : ∀ i, i < b → bitB m (s + i) = true
  pos : 1 ≤ b
  top : s + b ≤ 32
theorem shape_of (m : Int) (h2 : 1 ≤ m) (h3 : m < 2 ^ 32) : Shape m (fS m) (fB m) ∧ bitB m (fS m + fB m) = false := by
  obtain ⟨t1, t2, t3⟩ := tzF_spec 32 m (by omega) h3
  have hd0 : 0 ≤ m / 2 ^ fS m := Int.ediv_nonneg (by omega) (Int.le_of_lt (pow_pos' _))
  have hd1 : m / 2 ^ fS m ≤ m := Int.ediv_le_self _ (by omega)
  obtain ⟨u1, u2, u3⟩ := toF_spec 32 (m / 2 ^ fS m) hd0 (by omega)
  have hone : ∀ i, i < fB m → bitB m (fS m + i) = true := fun i hi => by rw [bitB_iff, ← div_div_pow]; exact u3 i hi
  have htop : fS m + fB m ≤ 32 := by
    rcases Nat.lt_or_ge 32 (fS m + fB m) with h | h
    · have hb := hone (32 - fS m) (by have : fS m < 32 := t1; omega)
      have : fS m < 32 := t1
      rw [bitB_iff, show fS m + (32 - fS m) = 32 by omega, Int.ediv_eq_zero_of_lt (by omega) h3] at hb
      simp at hb
    · exact h
  have hpos : 1 ≤ fB m := by
    rcases Nat.lt_or_ge 0 (fB m) with h | h
    · exact h
    · have h0 : fB m = 0 := by omega
      have : m / 2 ^ fS m / 2 ^ fB m % 2 = 0 := u2
      rw [h0] at this
      have t2' : m / 2 ^ fS m % 2 = 1 := t2
      simp at this; omega
  refine ⟨⟨fun i hi => ?_, hone, hpos, htop⟩, ?_⟩
  · rw [bitB_not]; exact t3 i hi
  · rw [bitB_not, ← div_div_pow]; exact u2
theorem rf_low {m : Int} {s b : Nat} (h : Shape m s b) (k : Nat) (hk : k ≤ s) : rfAcc m k = (0, 0, 0) := by
  induction k with
  | zero => rfl
  | succ k ih => rw [rfAcc_succ, h.low k (by omega)]; simpa using ih (by omega)
theorem rf_run {m : Int} {s b : Nat} (h : Shape m s b) (j : Nat) (h1 : 1 ≤ j) (hj : j ≤ b) : rfAcc m (s + j) = ((s : Int), (j : Int), 1) := by
  induction j with
  | zero => omega
  | succ j ih =>
    rw [show s + (j + 1) = (s + j) + 1 by omega, rfAcc_succ, h.one j (by omega), if_pos rfl]
    by_cases e : j = 0
    · subst e
      have hc : s + 0 = 0 ∨ bitB m (s + 0 - 1) = false := by
        by_cases e2 : s = 0
        · left; omega
        · right; rw [show s + 0 - 1 = s - 1 by omega]; exact h.low (s - 1) (by omega)
      rw [if_pos hc, show rfAcc m (s + 0) = (0, 0, 0) from rf_low h s (Nat.le_refl _)]
      simp
    · have hc : ¬ (s + j = 0 ∨ bitB m (s + j - 1) = false) := by
        intro hc; rcases hc with hc | hc
        · omega
        · rw [show s + j - 1 = s + (j - 1) by omega, h.one (j - 1) (by omega)] at hc; simp at hc
      rw [if_neg hc, ih (by omega) (by omega)]; simp
theorem rf_none {m : Int} {s b : Nat} (h : Shape m s b) (hz : m / 2 ^ (s + b) = 0) (k : Nat) (hk : s + b ≤ k) : rfAcc m k = ((s : Int), (b : Int), 1) := by
  obtain ⟨d, rfl⟩ := Nat.exists_eq_add_of_le hk
  induction d with
  | zero => exact rf_run h b h.pos (Nat.le_refl _)
  | succ d ih =>
    have hb : bitB m (s + b + d) = false := by rw [bitB_not, ← div_div_pow, hz]; simp
    rw [show s + b + (d + 1) = (s + b + d) + 1 by omega, rfAcc_succ, hb]
    simpa using ih (by omega)
theorem rf_mono (m : Int) (k d : Nat) : (rfAcc m k).2.2 ≤ (rfAcc m (k + d)).2.2 := by
  induction d with
  | zero => exact Int.le_refl _
  | succ d ih => rw [show k + (d + 1) = (k + d) + 1 by omega, rfAcc_succ]; split <;> (try split) <;> (try simp only []) <;> omega
theorem rf_two {m : Int} {s b : Nat} (h : Shape m s b) (hgap : bitB m (s + b) = false) (t : Nat) (ht : s + b ≤ t) (hb : bitB m t = true) : ∀ k, t < k → 2 ≤ (rfAcc m k).2.2 := by
  have key : ∀ d, (∀ i, i < d → bitB m (s + b + i) = false) → rfAcc m (s + b + d) = ((s : Int), (b : Int), 1) := by
    intro d
    induction d with
    | zero => intro _; exact rf_run h b h.pos (Nat.le_refl _)
    | succ d ih => intro hd; rw [show s + b + (d + 1) = (s + b + d) + 1 by omega, rfAcc_succ, hd d (by omega)]; simpa using ih (fun i hi => hd i (by omega))
  have first : ∃ d, d ≤ t - (s + b) ∧ bitB m (s + b + d) = true ∧ ∀ i, i < d → bitB m (s + b + i) = false := by
    have : ∀ n, bitB m (s + b + n) = true → ∃ d, d ≤ n ∧ bitB m (s + b + d) = true ∧ ∀ i, i < d → bitB m (s + b + i) = false := by
      intro n
      induction n using Nat.strongRecOn with
      | ind n ih =>
        intro hn
        by_cases hex : ∃ i, i < n ∧ bitB m (s + b + i) = true
        · obtain ⟨i, hi, hbi⟩ := hex
          obtain ⟨d, hd, hd2⟩ := ih i hi hbi
          exact ⟨d, by omega, hd2⟩
        · exact ⟨n, Nat.le_refl _, hn, fun i hi => by
            cases hc : bitB m (s + b + i) with
            | false => rfl
            | true => exact absurd ⟨i, hi, hc⟩ hex⟩
    exact this (t - (s + b)) (by rw [show s + b + (t - (s + b)) = t by omega]; exact hb)
  obtain ⟨d, hd, hbd, hlow⟩ := first
  have hd0 : 0 < d := by
    rcases Nat.eq_zero_or_pos d with e | e
    · subst e; rw [Nat.add_zero] at hbd; rw [hbd] at hgap; simp at hgap
    · exact e
  have h2 : (rfAcc m (s + b + d + 1)).2.2 = 2 := by
    rw [rfAcc_succ, hbd, if_pos rfl, if_pos (by right; rw [show s + b + d - 1 = s + b + (d - 1) by omega]; exact hlow _ (by omega)), key d hlow]; rfl
  intro k hk
  obtain ⟨e, he⟩ := Nat.exists_eq_add_of_le (show s + b + d + 1 ≤ k by omega)
  have := rf_mono m (s + b + d + 1) e
  rw [← he] at this; omega
theorem find_same (m width : Int) : (findI m width).2.2 = (rfindI m width).2.2 ∧ (findI m width).2.1 = (rfindI m width).2.1 ∧ (0 < (findI m width).2.1 → (findI m width).1 = (rfindI m width).1) ∧ ((findI m width).2.1 = 0 → (findI m width).1 = 0) ∧ 0 ≤ (findI m width).2.1 := by
  unfold findI rfindI
  by_cases h1 : ¬ width = 16 ∧ ¬ width = 32
  · rw [if_pos h1, if_pos h1]; simp
  · rw [if_neg h1, if_neg h1]
    by_cases h2 : m < 0 ∨ 2 ^ width.toNat - 1 < m
    · have h2' : m < 0 ∨ 2 ^ width.toNat ≤ m := by omega
      rw [if_pos h2, if_pos h2']; simp
    · have h2' : ¬ (m < 0 ∨ 2 ^ width.toNat ≤ m) := by omega
      rw [if_neg h2, if_neg h2']
      have hw : width.toNat ≤ 32 := by omega
      have hp := pow_le' hw
      by_cases h3 : m = 0
      · subst h3
        have hz : ∀ k, rfAcc 0 k = (0, 0, 0) := by
          intro k; induction k with
          | zero => rfl
          | succ k ih => rw [rfAcc_succ, show bitB 0 k = false by rw [bitB_not]; simp]; simpa using ih
        rw [if_pos rfl, hz]; simp
      · rw [if_neg h3]
        obtain ⟨hs, hgap⟩ := shape_of m (by omega) (by omega)
        have hsb : fS m + fB m ≤ width.toNat := by
          rcases Nat.lt_or_ge width.toNat (fS m + fB m) with h | h
          · have hb := hs.one (fB m - 1) (by have := hs.pos; omega)
            have hle := pow_le' (show width.toNat ≤ fS m + (fB m - 1) by have := hs.pos; omega)
            rw [bitB_iff, Int.ediv_eq_zero_of_lt (by omega) (by omega)] at hb
            simp at hb
          · exact h
        by_cases hz : m / 2 ^ (fS m + fB m) = 0
        · rw [if_pos hz, rf_none hs hz _ hsb]; simp; have := hs.pos; omega
        · rw [if_neg hz]
          have hq : 0 < m / 2 ^ (fS m + fB m) := by have := Int.ediv_nonneg (show 0 ≤ m by omega) (Int.le_of_lt (pow_pos' (fS m + fB m))); omega
          have hq2 : m / 2 ^ (fS m + fB m) < 2 ^ 32 := by have := Int.ediv_le_self (2 ^ (fS m + fB m)) (show 0 ≤ m by omega); omega
          obtain ⟨t1, t2, _⟩ := tzF_spec 32 _ hq hq2
          rw [div_div_pow] at t2
          have hb := (bitB_iff m _).2 t2
          have hlt : fS m + fB m + tzF 32 (m / 2 ^ (fS m + fB m)) < width.toNat := by
            rcases Nat.lt_or_ge (fS m + fB m + tzF 32 (m / 2 ^ (fS m + fB m))) width.toNat with h | h
            · exact h
            · have hle := pow_le' h
              rw [bitB_iff, Int.ediv_eq_zero_of_lt (by omega) (by omega)] at hb
              simp at hb
          have := rf_two hs hgap _ (by omega) hb _ hlt
          rw [if_pos (by omega)]; simp
theorem find_good (m width : Int) (he : (findI m width).2.2 = 0) (hm : m ≠ 0) : ∃ s b : Nat, (findI m width).1 = s ∧ (findI m width).2.1 = b ∧ Shape m s b ∧ m / 2 ^ (s + b) = 0 := by
  have hr := findI_ok m width he
  have hs := shape_of m (by omega) hr.2
  unfold findI at he ⊢
  split at he
  · simp at he
  · rename_i h1
    rw [if_neg h1]
    split at he
    · simp at he
    · rename_i h2
      rw [if_neg h2, if_neg hm]
      split at he
      · rename_i h3
        rw [if_pos h3]; exact ⟨fS m, fB m, rfl, rfl, hs.1, h3⟩
      · simp at he
theorem shape_right {m : Int} {s b : Nat} (h : Shape m s b) : rightB s b = true := by have := h.pos; have := h.top; simp [rightB]; omega
theorem shape_of_acc {m : Int} {s b : Nat} (h : Shape m s b) (hz : m / 2 ^ (s + b) = 0) (word : Int) : ofI word m = word / 2 ^ s % 2 ^ b ∧ cntAcc m 32 = b := by
  have low : ∀ k, k ≤ s → ofAcc word m k = (0, 1) ∧ cntAcc m k = 0 := by
    intro k hk
    induction k with
    | zero => exact ⟨rfl, rfl⟩
    | succ k ih => rw [ofAcc_succ, cntAcc_succ, h.low k (by omega)]; simpa using ih (by omega)
  have run : ∀ j, j ≤ b → ofAcc word m (s + j) = (word / 2 ^ s % 2 ^ j, 2 ^ j) ∧ cntAcc m (s + j) = j := by
    intro j hj
    induction j with
    | zero => have := low s (Nat.le_refl _); simpa using this
    | succ j ih =>
      obtain ⟨i1, i2⟩ := ih (by omega)
      rw [show s + (j + 1) = (s + j) + 1 by omega, ofAcc_succ, cntAcc_succ, h.one j (by omega), if_pos rfl, if_pos rfl, i1, i2, mod_succ, pow_succ']
      refine ⟨?_, by omega⟩
      rw [div_div_pow]
      by_cases hb : bitB word (s + j) = true
      · rw [if_pos hb, (bitB_iff _ _).1 hb]; simp
      · rw [if_neg hb, (bitB_not _ _).1 (by simpa using hb)]; simp
  have rest : ∀ d, ofAcc word m (s + b + d) = (word / 2 ^ s % 2 ^ b, 2 ^ b) ∧ cntAcc m (s + b + d) = b := by
    intro d
    induction d with
    | zero => exact run b (Nat.le_refl _)
    | succ d ih =>
      have hb : bitB m (s + b + d) = false := by rw [bitB_not, ← div_div_pow, hz]; simp
      rw [show s + b + (d + 1) = (s + b + d) + 1 by omega, ofAcc_succ, cntAcc_succ, hb]; simpa using ih
  have := rest (32 - (s + b))
  rw [show s + b + (32 - (s + b)) = 32 by have := h.top; omega] at this
  exact ⟨by unfold ofI; rw [this.1], this.2⟩
theorem shape_word {m : Int} {s b : Nat} (h : Shape m s b) (hz : m / 2 ^ (s + b) = 0) : wordI s b = m := by
  have low : ∀ k, k ≤ s → m % 2 ^ k = 0 := by
    intro k hk
    induction k with
    | zero => simp <;> omega
    | succ k ih => rw [mod_succ, ih (by omega), (bitB_not _ _).1 (h.low k (by omega))]; simp
  have run : ∀ j, j ≤ b → m / 2 ^ s % 2 ^ j = 2 ^ j - 1 := by
    intro j hj
    induction j with
    | zero => simp <;> omega
    | succ j ih => rw [mod_succ, ih (by omega), div_div_pow, (bitB_iff _ _).1 (h.one j (by omega)), pow_succ']; omega
  unfold wordI
  rw [if_pos (shape_right h)]
  have e1 := Int.mul_ediv_add_emod m (2 ^ s)
  rw [low s (Nat.le_refl _)] at e1
  have e2 := Int.mul_ediv_add_emod (m / 2 ^ s) (2 ^ b)
  rw [div_div_pow, hz, run b (Nat.le_refl _)] at e2
  rw [← e2] at e1
  simp only [Int.toNat_natCast]
  rw [Int.mul_comm] at e1; simp at e1; omega
theorem chan_same (m width word none : Int) (he : (findI m width).2.2 = 0) : chI (findI m width).1 (findI m width).2.1 word none = chR word m none ∧ okM (findI m width).1 (findI m width).2.1 := by
  by_cases hm : m = 0
  · subst hm
    have e : findI 0 width = (0, 0, 0) := by
      unfold findI at he ⊢
      split at he
      · simp at he
      · rename_i h1
        rw [if_neg h1]
        split at he
        · simp at he
        · rename_i h2
          rw [if_neg h2, if_pos rfl]
    rw [e]; exact ⟨rfl, Or.inl ⟨rfl, rfl⟩⟩
  · obtain ⟨s, b, h1, h2, h3, h4⟩ := find_good m width he hm
    obtain ⟨a1, a2⟩ := shape_of_acc h3 h4 word
    rw [h1, h2]
    refine ⟨?_, Or.inr (shape_right h3)⟩
    unfold chI chR
    have := h3.pos
    rw [if_neg (by omega), if_neg hm, a1, a2]; simp
theorem bitB_nat (n i : Nat) : bitB n i = n.testBit i := by
  rw [Nat.testBit_eq_decide_div_mod_eq]
  unfold bitB
  have : ((n : Int) / 2 ^ i % 2 = 1) ↔ n / 2 ^ i % 2 = 1 := by
    have e : ((n : Int) / 2 ^ i % 2) = ((n / 2 ^ i % 2 : Nat) : Int) := by rw [Int.natCast_emod, Int.natCast_ediv, Int.natCast_pow]; rfl
    rw [e]; omega
  simp [this]
theorem bothF_iff (a b : Nat) (k : Nat) : bothF a b k = true ↔ ∃ i, i < k ∧ a.testBit i = true ∧ b.testBit i = true := by
  induction k with
  | zero => simp [bothF]
  | succ k ih =>
    rw [bothF_succ, Bool.or_eq_true, ih, Bool.and_eq_true, bitB_nat, bitB_nat]
    constructor
    · rintro (⟨i, h1, h2⟩ | h)
      · exact ⟨i, by omega, h2⟩
      · exact ⟨k, by omega, h⟩
    · rintro ⟨i, h1, h2⟩
      by_cases e : i = k
      · subst e; exact Or.inr h2
      · exact Or.inl ⟨i, by omega, h2⟩
theorem and_ne_zero (a b : Nat) : a &&& b ≠ 0 ↔ ∃ i, a.testBit i = true ∧ b.testBit i = true := by
  constructor
  · intro h
    obtain ⟨i, hi⟩ := Nat.exists_testBit_of_ne_zero h
    rw [Nat.testBit_and, Bool.and_eq_true] at hi
    exact ⟨i, hi⟩
  · rintro ⟨i, h1, h2⟩ h0
    have : (a &&& b).testBit i = true := by rw [Nat.testBit_and, h1, h2]; rfl
    rw [h0] at this; simp at this
theorem anyBoth_iff (l : Nat → Int) (n : Nat) (k : Nat) (hk : l k = (n : Int)) (hn : n < 2 ^ 32) : ∀ j, (∀ i, i < j → 0 ≤ l i) → (anyBoth l k j = true ↔ n &&& seenN l j ≠ 0) := by
  intro j
  induction j with
  | zero => intro _; simp [anyBoth, seenN]
  | succ j ih =>
    intro h
    obtain ⟨m, hm⟩ := Int.eq_ofNat_of_zero_le (h j (by omega))
    rw [anyBoth_succ, Bool.or_eq_true, ih (fun i hi => h i (by omega)), seenN_succ, hk, hm, bothF_iff, and_ne_zero, and_ne_zero]
    constructor
    · rintro (⟨i, h1, h2⟩ | ⟨i, _, h1, h2⟩)
      · exact ⟨i, h1, by rw [Nat.testBit_or, h2]; rfl⟩
      · exact ⟨i, h1, by rw [Nat.testBit_or]; simp [h2]⟩
    · rintro ⟨i, h1, h2⟩
      rw [Nat.testBit_or, Bool.or_eq_true] at h2
      rcases h2 with h2 | h2
      · exact Or.inl ⟨i, h1, h2⟩
      · refine Or.inr ⟨i, ?_, h1, by simpa using h2⟩
        rcases Nat.lt_or_ge i 32 with h3 | h3
        · exact h3
        · rw [Nat.testBit_lt_two_pow (Nat.lt_of_lt_of_le hn (Nat.pow_le_pow_right (by decide) h3))] at h1; simp at h1
theorem step_same (l : Nat → Int) (width : Int) (k : Nat) (h : ∀ j, j < k → pstep l width j = 0) : pstep l width k = rstep l width k := by
  unfold pstep rstep
  rw [(find_same (l k) width).1]
  by_cases he : (rfindI (l k) width).2.2 = 0
  · have hf : (findI (l k) width).2.2 = 0 := by rw [(find_same (l k) width).1]; exact he
    have hr := findI_ok _ _ hf
    obtain ⟨n, hn⟩ := Int.eq_ofNat_of_zero_le hr.1
    have hpos : ∀ i, i < k → 0 ≤ l i := by
      intro i hi
      have hk := h i hi
      have he' : (findI (l i) width).2.2 = 0 := by
        unfold pstep at hk; split at hk
        · exact hk
        · rename_i h'; simpa using h'
      exact (findI_ok _ _ he').1
    have ha := anyBoth_iff l n k hn (by omega) k hpos
    have hn' : (l k).toNat = n := by omega
    rw [hn', he]
    by_cases hb : anyBoth l k k = true
    · have := ha.1 hb
      simp [hb, this]
    · have hc : n &&& seenN l k = 0 := Decidable.not_not.1 (fun hc => hb (ha.2 hc))
      simp [hb, hc]
  · simp [he]
theorem scan_congr (f g : Nat → Int) (h0 : f 0 = g 0) (h1 : f 0 = 0 → f 1 = g 1) (h2 : f 0 = 0 → f 1 = 0 → f 2 = g 2) (h3 : f 0 = 0 → f 1 = 0 → f 2 = 0 → f 3 = g 3) : scan4 f = scan4 g := by
  unfold scan4
  by_cases e0 : f 0 = 0
  · have g0 := h0 ▸ e0; have h1 := h1 e0
    by_cases e1 : f 1 = 0
    · have g1 := h1 ▸ e1; have h2 := h2 e0 e1
      by_cases e2 : f 2 = 0
      · have g2 := h2 ▸ e2; have h3 := h3 e0 e1 e2
        simp [e0, g0, e1, g1, e2, g2, h3]
      · have g2 : ¬ g 2 = 0 := h2 ▸ e2
        simp [e0, g0, e1, g1, g2, h2]
    · have g1 : ¬ g 1 = 0 := h1 ▸ e1
      simp [e0, g0, g1, h1]
  · have g0 : ¬ g 0 = 0 := h0 ▸ e0
    simp [g0, h0]
theorem scan_same (l : Nat → Int) (width : Int) : scan4 (pstep l width) = scan4 (rstep l width) :=
  scan_congr _ _ (step_same l width 0 (fun j hj => by omega))
    (fun e0 => step_same l width 1 (fun j hj => by obtain rfl : j = 0 := by omega
                                                   exact e0))
    (fun e0 e1 => step_same l width 2 (fun j hj => by rcases (show j = 0 ∨ j = 1 by omega) with rfl | rfl
                                                      · exact e0
                                                      · exact e1))
    (fun e0 e1 e2 => step_same l width 3 (fun j hj => by rcases (show j = 0 ∨ j = 1 ∨ j = 2 by omega) with rfl | rfl | rfl
                                                         · exact e0
                                                         · exact e1
                                                         · exact e2))
theorem scan_ok (f : Nat → Int) (h : (scan4 f).2 = 0) : f 0 = 0 ∧ f 1 = 0 ∧ f 2 = 0 ∧ f 3 = 0 := by
  unfold scan4 at h
  by_cases h0 : f 0 = 0
  · rw [if_neg (by simp [h0])] at h
    by_cases h1 : f 1 = 0
    · rw [if_neg (by simp [h1])] at h
      by_cases h2 : f 2 = 0
      · rw [if_neg (by simp [h2])] at h
        by_cases h3 : f 3 = 0
        · exact ⟨h0, h1, h2, h3⟩
        · rw [if_pos h3] at h; exact absurd h h3
      · rw [if_pos h2] at h; exact absurd h h2
    · rw [if_pos h1] at h; exact absurd h h1
  · rw [if_pos h0] at h; exact absurd h h0
theorem pstep_ok (l : Nat → Int) (width : Int) (k : Nat) (h : pstep l width k = 0) : (findI (l k) width).2.2 = 0 := by
  unfold pstep at h; split at h
  · exact h
  · rename_i h'; simpa using h'
end Go.Proofs.YtlfbaggcfaenlaaGreat

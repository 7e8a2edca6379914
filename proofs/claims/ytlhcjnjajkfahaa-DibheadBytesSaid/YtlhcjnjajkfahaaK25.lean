/- The plain law of layer 9: what the program computes is what the reference computes. No program in sight. -/
import Derived.Test.YtlhcjnjajkfahaaK17
namespace Go.Proofs.Ytlhcjnjajkfahaa
open Go.RowKit
theorem mod_succ (x : Int) (j : Nat) : x % 2 ^ (j + 1) = x % 2 ^ j + 2 ^ j * (x / 2 ^ j % 2) := by
  have h1 := Int.mul_ediv_add_emod x (2 ^ j)
  have h2 := Int.mul_ediv_add_emod (x / 2 ^ j) 2
  have h3 := Int.mul_ediv_add_emod x (2 ^ (j + 1))
  rw [div_pow_succ, pow_succ'] at h3
  rw [pow_succ']
  have e : 2 ^ j * (x / 2 ^ j) = 2 * 2 ^ j * (x / 2 ^ j / 2) + 2 ^ j * (x / 2 ^ j % 2) := by
    conv => lhs; rw [← h2]
    rw [Int.mul_add, ← Int.mul_assoc, Int.mul_comm (2 ^ j) 2]
  omega
theorem div_div_pow (x : Int) (a b : Nat) : x / 2 ^ a / 2 ^ b = x / 2 ^ (a + b) := by rw [Int.ediv_ediv_of_nonneg (Int.le_of_lt (pow_pos' _)), Int.pow_add]
theorem bitB_iff (x : Int) (i : Nat) : bitB x i = true ↔ x / 2 ^ i % 2 = 1 := by unfold bitB; simp
theorem bitB_not (x : Int) (i : Nat) : bitB x i = false ↔ x / 2 ^ i % 2 = 0 := by unfold bitB; simp; omega
/-- A number's bits, as Find sees them. -/
structure Shape (m : Int) (s b : Nat) : Prop where
  low : ∀ i, i < s → bitB m i = false
  one : ∀ i, i < b → bitB m (s + i) = true
  pos : 1 ≤ b
  top : s + b ≤ 32
theorem shape_of (m : Int) (h2 : 1 ≤ m) (h3 : m < 2 ^ 32) : Shape m (fS m) (fB m) ∧ bitB m (fS m + fB m) = false := by
  obtain ⟨t1, t2, t3⟩ := tzF_spec 32 m (by omega) h3
  have hd0 : 0 ≤ m / 2 ^ fS m := Int.ediv_nonneg (by omega) (Int.le_of_lt (pow_pos' _))
  have hd1 : m / 2 ^ fS m ≤ m := Int.ediv_le_self _ (by omega)
  obtain ⟨u1, u2, u3⟩ := toF_spec 32 (m / 2 ^ fS m) hd0 (by omega)
  have hone : ∀ i, i < fB m → bitB m (fS m + i) = true := fun i hi => by rw [bitB_iff, ← div_div_pow]; exact u3 i hi
  have htop : fS m + fB m ≤ 32 := by
    rcases Nat.lt_or_ge 32 (fS m + fB m) with h | h
    · have hb := hone (32 - fS m) (by have : fS m < 32 := t1; omega)
      have : fS m < 32 := t1
      rw [bitB_iff, show fS m + (32 - fS m) = 32 by omega, Int.ediv_eq_zero_of_lt (by omega) h3] at hb
      simp at hb
    · exact h
  have hpos : 1 ≤ fB m := by
    rcases Nat.lt_or_ge 0 (fB m) with h | h
    · exact h
    · have h0 : fB m = 0 := by omega
      have : m / 2 ^ fS m / 2 ^ fB m % 2 = 0 := u2
      rw [h0] at this
      have t2' : m / 2 ^ fS m % 2 = 1 := t2
      simp at this; omega
  refine ⟨⟨fun i hi => ?_, hone, hpos, htop⟩, ?_⟩
  · rw [bitB_not]; exact t3 i hi
  · rw [bitB_not, ← div_div_pow]; exact u2
theorem rf_low {m : Int} {s b : Nat} (h : Shape m s b) (k : Nat) (hk : k ≤ s) : rfAcc m k = (0, 0, 0) := by
  induction k with
  | zero => rfl
  | succ k ih => rw [rfAcc_succ, h.low k (by omega)]; simpa using ih (by omega)
theorem rf_run {m : Int} {s b : Nat} (h : Shape m s b) (j : Nat) (h1 : 1 ≤ j) (hj : j ≤ b) : rfAcc m (s + j) = ((s : Int), (j : Int), 1) := by
  induction j with
  | zero => omega
  | succ j ih =>
    rw [show s + (j + 1) = (s + j) + 1 by omega, rfAcc_succ, h.one j (by omega), if_pos rfl]
    by_cases e : j = 0
    · subst e
      have hc : s + 0 = 0 ∨ bitB m (s + 0 - 1) = false := by
        by_cases e2 : s = 0
        · left; omega
        · right; rw [show s + 0 - 1 = s - 1 by omega]; exact h.low (s - 1) (by omega)
      rw [if_pos hc, show rfAcc m (s + 0) = (0, 0, 0) from rf_low h s (Nat.le_refl _)]
      simp
    · have hc : ¬ (s + j = 0 ∨ bitB m (s + j - 1) = false) := by
        intro hc; rcases hc with hc | hc
        · omega
        · rw [show s + j - 1 = s + (j - 1) by omega, h.one (j - 1) (by omega)] at hc; simp at hc
      rw [if_neg hc, ih (by omega) (by omega)]; simp
theorem rf_none {m : Int} {s b : Nat} (h : Shape m s b) (hz : m / 2 ^ (s + b) = 0) (k : Nat) (hk : s + b ≤ k) : rfAcc m k = ((s : Int), (b : Int), 1) := by
  obtain ⟨d, rfl⟩ := Nat.exists_eq_add_of_le hk
  induction d with
  | zero => exact rf_run h b h.pos (Nat.le_refl _)
  | succ d ih =>
    have hb : bitB m (s + b + d) = false := by rw [bitB_not, ← div_div_pow, hz]; simp
    rw [show s + b + (d + 1) = (s + b + d) + 1 by omega, rfAcc_succ, hb]
    simpa using ih (by omega)
theorem rf_mono (m : Int) (k d : Nat) : (rfAcc m k).2.2 ≤ (rfAcc m (k + d)).2.2 := by
  induction d with
  | zero => exact Int.le_refl _
  | succ d ih => rw [show k + (d + 1) = (k + d) + 1 by omega, rfAcc_succ]; split <;> (try split) <;> (try simp only []) <;> omega
theorem rf_two {m : Int} {s b : Nat} (h : Shape m s b) (hgap : bitB m (s + b) = false) (t : Nat) (ht : s + b ≤ t) (hb : bitB m t = true) : ∀ k, t < k → 2 ≤ (rfAcc m k).2.2 := by
  -- the first bit behind the gap begins a new run
  have key : ∀ d, (∀ i, i < d → bitB m (s + b + i) = false) → rfAcc m (s + b + d) = ((s : Int), (b : Int), 1) := by
    intro d
    induction d with
    | zero => intro _; exact rf_run h b h.pos (Nat.le_refl _)
    | succ d ih => intro hd; rw [show s + b + (d + 1) = (s + b + d) + 1 by omega, rfAcc_succ, hd d (by omega)]; simpa using ih (fun i hi => hd i (by omega))
  have first : ∃ d, d ≤ t - (s + b) ∧ bitB m (s + b + d) = true ∧ ∀ i, i < d → bitB m (s + b + i) = false := by
    have : ∀ n, bitB m (s + b + n) = true → ∃ d, d ≤ n ∧ bitB m (s + b + d) = true ∧ ∀ i, i < d → bitB m (s + b + i) = false := by
      intro n
      induction n using Nat.strongRecOn with
      | ind n ih =>
        intro hn
        by_cases hex : ∃ i, i < n ∧ bitB m (s + b + i) = true
        · obtain ⟨i, hi, hbi⟩ := hex
          obtain ⟨d, hd, hd2⟩ := ih i hi hbi
          exact ⟨d, by omega, hd2⟩
        · exact ⟨n, Nat.le_refl _, hn, fun i hi => by
            cases hc : bitB m (s + b + i) with
            | false => rfl
            | true => exact absurd ⟨i, hi, hc⟩ hex⟩
    exact this (t - (s + b)) (by rw [show s + b + (t - (s + b)) = t by omega]; exact hb)
  obtain ⟨d, hd, hbd, hlow⟩ := first
  have hd0 : 0 < d := by
    rcases Nat.eq_zero_or_pos d with e | e
    · subst e; rw [Nat.add_zero] at hbd; rw [hbd] at hgap; simp at hgap
    · exact e
  have h2 : (rfAcc m (s + b + d + 1)).2.2 = 2 := by
    rw [rfAcc_succ, hbd, if_pos rfl, if_pos (by right; rw [show s + b + d - 1 = s + b + (d - 1) by omega]; exact hlow _ (by omega)), key d hlow]; rfl
  intro k hk
  obtain ⟨e, he⟩ := Nat.exists_eq_add_of_le (show s + b + d + 1 ≤ k by omega)
  have := rf_mono m (s + b + d + 1) e
  rw [← he] at this; omega
/-- Find and its reference say the same. -/
theorem find_same (m width : Int) : (findI m width).2.2 = (rfindI m width).2.2 ∧ (findI m width).2.1 = (rfindI m width).2.1 ∧ (0 < (findI m width).2.1 → (findI m width).1 = (rfindI m width).1) ∧ ((findI m width).2.1 = 0 → (findI m width).1 = 0) ∧ 0 ≤ (findI m width).2.1 := by
  unfold findI rfindI
  by_cases h1 : ¬ width = 16 ∧ ¬ width = 32
  · rw [if_pos h1, if_pos h1]; simp
  · rw [if_neg h1, if_neg h1]
    by_cases h2 : m < 0 ∨ 2 ^ width.toNat - 1 < m
    · have h2' : m < 0 ∨ 2 ^ width.toNat ≤ m := by omega
      rw [if_pos h2, if_pos h2']; simp
    · have h2' : ¬ (m < 0 ∨ 2 ^ width.toNat ≤ m) := by omega
      rw [if_neg h2, if_neg h2']
      have hw : width.toNat ≤ 32 := by omega
      have hp := pow_le' hw
      by_cases h3 : m = 0
      · subst h3
        have hz : ∀ k, rfAcc 0 k = (0, 0, 0) := by
          intro k; induction k with
          | zero => rfl
          | succ k ih => rw [rfAcc_succ, show bitB 0 k = false by rw [bitB_not]; simp]; simpa using ih
        rw [if_pos rfl, hz]; simp
      · rw [if_neg h3]
        obtain ⟨hs, hgap⟩ := shape_of m (by omega) (by omega)
        have hsb : fS m + fB m ≤ width.toNat := by
          rcases Nat.lt_or_ge width.toNat (fS m + fB m) with h | h
          · have hb := hs.one (fB m - 1) (by have := hs.pos; omega)
            have hle := pow_le' (show width.toNat ≤ fS m + (fB m - 1) by have := hs.pos; omega)
            rw [bitB_iff, Int.ediv_eq_zero_of_lt (by omega) (by omega)] at hb
            simp at hb
          · exact h
        by_cases hz : m / 2 ^ (fS m + fB m) = 0
        · rw [if_pos hz, rf_none hs hz _ hsb]; simp; have := hs.pos; omega
        · rw [if_neg hz]
          have hq : 0 < m / 2 ^ (fS m + fB m) := by have := Int.ediv_nonneg (show 0 ≤ m by omega) (Int.le_of_lt (pow_pos' (fS m + fB m))); omega
          have hq2 : m / 2 ^ (fS m + fB m) < 2 ^ 32 := by have := Int.ediv_le_self (2 ^ (fS m + fB m)) (show 0 ≤ m by omega); omega
          obtain ⟨t1, t2, _⟩ := tzF_spec 32 _ hq hq2
          rw [div_div_pow] at t2
          have hb := (bitB_iff m _).2 t2
          have hlt : fS m + fB m + tzF 32 (m / 2 ^ (fS m + fB m)) < width.toNat := by
            rcases Nat.lt_or_ge (fS m + fB m + tzF 32 (m / 2 ^ (fS m + fB m))) width.toNat with h | h
            · exact h
            · have hle := pow_le' h
              rw [bitB_iff, Int.ediv_eq_zero_of_lt (by omega) (by omega)] at hb
              simp at hb
          have := rf_two hs hgap _ (by omega) hb _ hlt
          rw [if_pos (by omega)]; simp
/-- A mask that is one, whole. -/
theorem find_good (m width : Int) (he : (findI m width).2.2 = 0) (hm : m ≠ 0) : ∃ s b : Nat, (findI m width).1 = s ∧ (findI m width).2.1 = b ∧ Shape m s b ∧ m / 2 ^ (s + b) = 0 := by
  have hr := findI_ok m width he
  have hs := shape_of m (by omega) hr.2
  unfold findI at he ⊢
  split at he
  · simp at he
  · rename_i h1
    rw [if_neg h1]
    split at he
    · simp at he
    · rename_i h2
      rw [if_neg h2, if_neg hm]
      split at he
      · rename_i h3
        rw [if_pos h3]; exact ⟨fS m, fB m, rfl, rfl, hs.1, h3⟩
      · simp at he
theorem shape_right {m : Int} {s b : Nat} (h : Shape m s b) : rightB s b = true := by have := h.pos; have := h.top; simp [rightB]; omega
theorem shape_of_acc {m : Int} {s b : Nat} (h : Shape m s b) (hz : m / 2 ^ (s + b) = 0) (word : Int) : ofI word m = word / 2 ^ s % 2 ^ b ∧ cntAcc m 32 = b := by
  have low : ∀ k, k ≤ s → ofAcc word m k = (0, 1) ∧ cntAcc m k = 0 := by
    intro k hk
    induction k with
    | zero => exact ⟨rfl, rfl⟩
    | succ k ih => rw [ofAcc_succ, cntAcc_succ, h.low k (by omega)]; simpa using ih (by omega)
  have run : ∀ j, j ≤ b → ofAcc word m (s + j) = (word / 2 ^ s % 2 ^ j, 2 ^ j) ∧ cntAcc m (s + j) = j := by
    intro j hj
    induction j with
    | zero => have := low s (Nat.le_refl _); simpa using this
    | succ j ih =>
      obtain ⟨i1, i2⟩ := ih (by omega)
      rw [show s + (j + 1) = (s + j) + 1 by omega, ofAcc_succ, cntAcc_succ, h.one j (by omega), if_pos rfl, if_pos rfl, i1, i2, mod_succ, pow_succ']
      refine ⟨?_, by omega⟩
      rw [div_div_pow]
      by_cases hb : bitB word (s + j) = true
      · rw [if_pos hb, (bitB_iff _ _).1 hb]; simp
      · rw [if_neg hb, (bitB_not _ _).1 (by simpa using hb)]; simp
  have rest : ∀ d, ofAcc word m (s + b + d) = (word / 2 ^ s % 2 ^ b, 2 ^ b) ∧ cntAcc m (s + b + d) = b := by
    intro d
    induction d with
    | zero => exact run b (Nat.le_refl _)
    | succ d ih =>
      have hb : bitB m (s + b + d) = false := by rw [bitB_not, ← div_div_pow, hz]; simp
      rw [show s + b + (d + 1) = (s + b + d) + 1 by omega, ofAcc_succ, cntAcc_succ, hb]; simpa using ih
  have := rest (32 - (s + b))
  rw [show s + b + (32 - (s + b)) = 32 by have := h.top; omega] at this
  exact ⟨by unfold ofI; rw [this.1], this.2⟩
theorem shape_word {m : Int} {s b : Nat} (h : Shape m s b) (hz : m / 2 ^ (s + b) = 0) : wordI s b = m := by
  have low : ∀ k, k ≤ s → m % 2 ^ k = 0 := by
    intro k hk
    induction k with
    | zero => simp <;> omega
    | succ k ih => rw [mod_succ, ih (by omega), (bitB_not _ _).1 (h.low k (by omega))]; simp
  have run : ∀ j, j ≤ b → m / 2 ^ s % 2 ^ j = 2 ^ j - 1 := by
    intro j hj
    induction j with
    | zero => simp <;> omega
    | succ j ih => rw [mod_succ, ih (by omega), div_div_pow, (bitB_iff _ _).1 (h.one j (by omega)), pow_succ']; omega
  unfold wordI
  rw [if_pos (shape_right h)]
  have e1 := Int.mul_ediv_add_emod m (2 ^ s)
  rw [low s (Nat.le_refl _)] at e1
  have e2 := Int.mul_ediv_add_emod (m / 2 ^ s) (2 ^ b)
  rw [div_div_pow, hz, run b (Nat.le_refl _)] at e2
  rw [← e2] at e1
  simp only [Int.toNat_natCast]
  rw [Int.mul_comm] at e1; simp at e1; omega
theorem chan_same (m width word none : Int) (he : (findI m width).2.2 = 0) : chI (findI m width).1 (findI m width).2.1 word none = chR word m none ∧ okM (findI m width).1 (findI m width).2.1 := by
  by_cases hm : m = 0
  · subst hm
    have e : findI 0 width = (0, 0, 0) := by
      unfold findI at he ⊢
      split at he
      · simp at he
      · rename_i h1
        rw [if_neg h1]
        split at he
        · simp at he
        · rename_i h2
          rw [if_neg h2, if_pos rfl]
    rw [e]; exact ⟨rfl, Or.inl ⟨rfl, rfl⟩⟩
  · obtain ⟨s, b, h1, h2, h3, h4⟩ := find_good m width he hm
    obtain ⟨a1, a2⟩ := shape_of_acc h3 h4 word
    rw [h1, h2]
    refine ⟨?_, Or.inr (shape_right h3)⟩
    unfold chI chR
    have := h3.pos
    rw [if_neg (by omega), if_neg hm, a1, a2]; simp
end Go.Proofs.Ytlhcjnjajkfahaa

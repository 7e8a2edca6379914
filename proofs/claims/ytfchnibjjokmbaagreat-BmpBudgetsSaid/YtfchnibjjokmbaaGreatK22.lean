/- Parts. -/
import Derived.Test.YtfchnibjjokmbaaGreatK12
import Derived.Laws.StructEq
set_option linter.all false
set_option maxRecDepth 100000
set_option maxHeartbeats 16000000
open Go.Value renaming int → J, pointer → Y
open Go.IntKind renaming i64 → I, u8 → U
namespace Go.Proofs.YtfchnibjjokmbaaGreat
open Go.RowKit
theorem mod_succ (x : Int) (j : Nat) : x % 2 ^ (j + 1) = x % 2 ^ j + 2 ^ j * (x / 2 ^ j % 2) := by
 have h1 := Int.mul_ediv_add_emod x (2 ^ j)
 have h2 := Int.mul_ediv_add_emod (x / 2 ^ j) 2
 have h3 := Int.mul_ediv_add_emod x (2 ^ (j + 1))
 rw [div_pow_succ, pow_succ'] at h3
 rw [pow_succ']
 have e : 2 ^ j * (x / 2 ^ j) = 2 * 2 ^ j * (x / 2 ^ j / 2) + 2 ^ j * (x / 2 ^ j % 2) := by
  conv => lhs; rw [← h2]
  rw [Int.mul_add, ← Int.mul_assoc, Int.mul_comm (2 ^ j) 2]
 omega
theorem div_div_pow (x : Int) (a b : Nat) : x / 2 ^ a / 2 ^ b = x / 2 ^ (a + b) := by rw [Int.ediv_ediv_of_nonneg (Int.le_of_lt (pow_pos' _)), Int.pow_add]
theorem bitB_iff (x : Int) (i : Nat) : bitB x i = true ↔ x / 2 ^ i % 2 = 1 := by unfold bitB; simp
theorem bitB_not (x : Int) (i : Nat) : bitB x i = false ↔ x / 2 ^ i % 2 = 0 := by unfold bitB; simp; omega
structure Shape (m : Int) (s b : Nat) : Prop where
 low : ∀ i, i < s → bitB m i = false
 one : ∀ i, i < b → bitB m (s + i) = true
 pos : 1 ≤ b
 top : s + b ≤ 32
theorem shape_of (m : Int) (h2 : 1 ≤ m) (h3 : m < 2 ^ 32) : Shape m (fS m) (fB m) ∧ bitB m (fS m + fB m) = false := by
 obtain ⟨t1, t2, t3⟩ := tzF_spec 32 m (by omega) h3
 have hd0 : 0 ≤ m / 2 ^ fS m := Int.ediv_nonneg (by omega) (Int.le_of_lt (pow_pos' _))
 have hd1 : m / 2 ^ fS m ≤ m := Int.ediv_le_self _ (by omega)
 obtain ⟨u1, u2, u3⟩ := toF_spec 32 (m / 2 ^ fS m) hd0 (by omega)
 have hone : ∀ i, i < fB m → bitB m (fS m + i) = true := fun i hi => by rw [bitB_iff, ← div_div_pow]; exact u3 i hi
 have htop : fS m + fB m ≤ 32 := by
  rcases Nat.lt_or_ge 32 (fS m + fB m) with h | h
  · have hb := hone (32 - fS m) (by have : fS m < 32 := t1; omega)
    have : fS m < 32 := t1
    rw [bitB_iff, show fS m + (32 - fS m) = 32 by omega, Int.ediv_eq_zero_of_lt (by omega) h3] at hb
    simp at hb
  · exact h
 have hpos : 1 ≤ fB m := by
  rcases Nat.lt_or_ge 0 (fB m) with h | h
  · exact h
  · have h0 : fB m = 0 := by omega
    have : m / 2 ^ fS m / 2 ^ fB m % 2 = 0 := u2
    rw [h0] at this
    have t2' : m / 2 ^ fS m % 2 = 1 := t2
    simp at this; omega
 refine ⟨⟨fun i hi => ?_, hone, hpos, htop⟩, ?_⟩
 · rw [bitB_not]; exact t3 i hi
 · rw [bitB_not, ← div_div_pow]; exact u2
theorem rf_low {m : Int} {s b : Nat} (h : Shape m s b) (k : Nat) (hk : k ≤ s) : af m k = (0, 0, 0) := by
 induction k with
 | zero => rfl
 | succ k ih => rw [rfAcc_succ, h.low k (by omega)]; simpa using ih (by omega)
theorem rf_run {m : Int} {s b : Nat} (h : Shape m s b) (j : Nat) (h1 : 1 ≤ j) (hj : j ≤ b) : af m (s + j) = ((s : Int), (j : Int), 1) := by
 induction j with
 | zero => omega
 | succ j ih =>
   rw [show s + (j + 1) = (s + j) + 1 by omega, rfAcc_succ, h.one j (by omega), if_pos rfl]
   by_cases e : j = 0
   · subst e
     have hc : s + 0 = 0 ∨ bitB m (s + 0 - 1) = false := by
      by_cases e2 : s = 0
      · left; omega
      · right; rw [show s + 0 - 1 = s - 1 by omega]; exact h.low (s - 1) (by omega)
     rw [if_pos hc, show af m (s + 0) = (0, 0, 0) from rf_low h s (Nat.le_refl _)]
     simp
   · have hc : ¬ (s + j = 0 ∨ bitB m (s + j - 1) = false) := by
      intro hc; rcases hc with hc | hc
      · omega
      · rw [show s + j - 1 = s + (j - 1) by omega, h.one (j - 1) (by omega)] at hc; simp at hc
     rw [if_neg hc, ih (by omega) (by omega)]; simp
theorem rf_none {m : Int} {s b : Nat} (h : Shape m s b) (hz : m / 2 ^ (s + b) = 0) (k : Nat) (hk : s + b ≤ k) : af m k = ((s : Int), (b : Int), 1) := by
 obtain ⟨d, rfl⟩ := Nat.exists_eq_add_of_le hk
 induction d with
 | zero => exact rf_run h b h.pos (Nat.le_refl _)
 | succ d ih =>
   have hb : bitB m (s + b + d) = false := by rw [bitB_not, ← div_div_pow, hz]; simp
   rw [show s + b + (d + 1) = (s + b + d) + 1 by omega, rfAcc_succ, hb]
   simpa using ih (by omega)
theorem rf_mono (m : Int) (k d : Nat) : (af m k).2.2 ≤ (af m (k + d)).2.2 := by
 induction d with
 | zero => exact Int.le_refl _
 | succ d ih => rw [show k + (d + 1) = (k + d) + 1 by omega, rfAcc_succ]; split <;> (try split) <;> (try simp only []) <;> omega
theorem rf_two {m : Int} {s b : Nat} (h : Shape m s b) (hgap : bitB m (s + b) = false) (t : Nat) (ht : s + b ≤ t) (hb : bitB m t = true) : ∀ k, t < k → 2 ≤ (af m k).2.2 := by
 have key : ∀ d, (∀ i, i < d → bitB m (s + b + i) = false) → af m (s + b + d) = ((s : Int), (b : Int), 1) := by
  intro d
  induction d with
  | zero => intro _; exact rf_run h b h.pos (Nat.le_refl _)
  | succ d ih => intro hd; rw [show s + b + (d + 1) = (s + b + d) + 1 by omega, rfAcc_succ, hd d (by omega)]; simpa using ih (fun i hi => hd i (by omega))
 have first : ∃ d, d ≤ t - (s + b) ∧ bitB m (s + b + d) = true ∧ ∀ i, i < d → bitB m (s + b + i) = false := by
  have : ∀ n, bitB m (s + b + n) = true → ∃ d, d ≤ n ∧ bitB m (s + b + d) = true ∧ ∀ i, i < d → bitB m (s + b + i) = false := by
   intro n
   induction n using Nat.strongRecOn with
   | ind n ih =>
     intro hn
     by_cases hex : ∃ i, i < n ∧ bitB m (s + b + i) = true
     · obtain ⟨i, hi, hbi⟩ := hex
       obtain ⟨d, hd, hd2⟩ := ih i hi hbi
       exact ⟨d, by omega, hd2⟩
     · exact ⟨n, Nat.le_refl _, hn, fun i hi => by
        cases hc : bitB m (s + b + i) with
        | false => rfl
        | true => exact absurd ⟨i, hi, hc⟩ hex⟩
  exact this (t - (s + b)) (by rw [show s + b + (t - (s + b)) = t by omega]; exact hb)
 obtain ⟨d, hd, hbd, hlow⟩ := first
 have hd0 : 0 < d := by
  rcases Nat.eq_zero_or_pos d with e | e
  · subst e; rw [Nat.add_zero] at hbd; rw [hbd] at hgap; simp at hgap
  · exact e
 have h2 : (af m (s + b + d + 1)).2.2 = 2 := by
  rw [rfAcc_succ, hbd, if_pos rfl, if_pos (by right; rw [show s + b + d - 1 = s + b + (d - 1) by omega]; exact hlow _ (by omega)), key d hlow]; rfl
 intro k hk
 obtain ⟨e, he⟩ := Nat.exists_eq_add_of_le (show s + b + d + 1 ≤ k by omega)
 have := rf_mono m (s + b + d + 1) e
 rw [← he] at this; omega
theorem find_same (m width : Int) : (aH m width).2.2 = (rfindI m width).2.2 ∧ (aH m width).2.1 = (rfindI m width).2.1 ∧ (0 < (aH m width).2.1 → (aH m width).1 = (rfindI m width).1) ∧ ((aH m width).2.1 = 0 → (aH m width).1 = 0) ∧ 0 ≤ (aH m width).2.1 := by
 unfold aH rfindI
 by_cases h1 : ¬ width = 16 ∧ ¬ width = 32
 · rw [if_pos h1, if_pos h1]; simp
 · rw [if_neg h1, if_neg h1]
   by_cases h2 : m < 0 ∨ 2 ^ width.toNat - 1 < m
   · have h2' : m < 0 ∨ 2 ^ width.toNat ≤ m := by omega
     rw [if_pos h2, if_pos h2']; simp
   · have h2' : ¬ (m < 0 ∨ 2 ^ width.toNat ≤ m) := by omega
     rw [if_neg h2, if_neg h2']
     have hw : width.toNat ≤ 32 := by omega
     have hp := pow_le' hw
     by_cases h3 : m = 0
     · subst h3
       have hz : ∀ k, af 0 k = (0, 0, 0) := by
        intro k; induction k with
        | zero => rfl
        | succ k ih => rw [rfAcc_succ, show bitB 0 k = false by rw [bitB_not]; simp]; simpa using ih
       rw [if_pos rfl, hz]; simp
     · rw [if_neg h3]
       obtain ⟨hs, hgap⟩ := shape_of m (by omega) (by omega)
       have hsb : fS m + fB m ≤ width.toNat := by
        rcases Nat.lt_or_ge width.toNat (fS m + fB m) with h | h
        · have hb := hs.one (fB m - 1) (by have := hs.pos; omega)
          have hle := pow_le' (show width.toNat ≤ fS m + (fB m - 1) by have := hs.pos; omega)
          rw [bitB_iff, Int.ediv_eq_zero_of_lt (by omega) (by omega)] at hb
          simp at hb
        · exact h
       by_cases hz : m / 2 ^ (fS m + fB m) = 0
       · rw [if_pos hz, rf_none hs hz _ hsb]; simp; have := hs.pos; omega
       · rw [if_neg hz]
         have hq : 0 < m / 2 ^ (fS m + fB m) := by have := Int.ediv_nonneg (show 0 ≤ m by omega) (Int.le_of_lt (pow_pos' (fS m + fB m))); omega
         have hq2 : m / 2 ^ (fS m + fB m) < 2 ^ 32 := by have := Int.ediv_le_self (2 ^ (fS m + fB m)) (show 0 ≤ m by omega); omega
         obtain ⟨t1, t2, _⟩ := tzF_spec 32 _ hq hq2
         rw [div_div_pow] at t2
         have hb := (bitB_iff m _).2 t2
         have hlt : fS m + fB m + tzF 32 (m / 2 ^ (fS m + fB m)) < width.toNat := by
          rcases Nat.lt_or_ge (fS m + fB m + tzF 32 (m / 2 ^ (fS m + fB m))) width.toNat with h | h
          · exact h
          · have hle := pow_le' h
            rw [bitB_iff, Int.ediv_eq_zero_of_lt (by omega) (by omega)] at hb
            simp at hb
         have := rf_two hs hgap _ (by omega) hb _ hlt
         rw [if_pos (by omega)]; simp
theorem find_good (m width : Int) (he : (aH m width).2.2 = 0) (hm : m ≠ 0) : ∃ s b : Nat, (aH m width).1 = s ∧ (aH m width).2.1 = b ∧ Shape m s b ∧ m / 2 ^ (s + b) = 0 := by
 have hr := findI_ok m width he
 have hs := shape_of m (by omega) hr.2
 unfold aH at he ⊢
 split at he
 · simp at he
 · rename_i h1
   rw [if_neg h1]
   split at he
   · simp at he
   · rename_i h2
     rw [if_neg h2, if_neg hm]
     split at he
     · rename_i h3
       rw [if_pos h3]; exact ⟨fS m, fB m, rfl, rfl, hs.1, h3⟩
     · simp at he
theorem shape_right {m : Int} {s b : Nat} (h : Shape m s b) : rightB s b = true := by have := h.pos; have := h.top; simp [rightB]; omega
theorem shape_of_acc {m : Int} {s b : Nat} (h : Shape m s b) (hz : m / 2 ^ (s + b) = 0) (word : Int) : ofI word m = word / 2 ^ s % 2 ^ b ∧ cntAcc m 32 = b := by
 have low : ∀ k, k ≤ s → ofAcc word m k = (0, 1) ∧ cntAcc m k = 0 := by
  intro k hk
  induction k with
  | zero => exact ⟨rfl, rfl⟩
  | succ k ih => rw [ofAcc_succ, cntAcc_succ, h.low k (by omega)]; simpa using ih (by omega)
 have run : ∀ j, j ≤ b → ofAcc word m (s + j) = (word / 2 ^ s % 2 ^ j, 2 ^ j) ∧ cntAcc m (s + j) = j := by
  intro j hj
  induction j with
  | zero => have := low s (Nat.le_refl _); simpa using this
  | succ j ih =>
    obtain ⟨i1, i2⟩ := ih (by omega)
    rw [show s + (j + 1) = (s + j) + 1 by omega, ofAcc_succ, cntAcc_succ, h.one j (by omega), if_pos rfl, if_pos rfl, i1, i2, mod_succ, pow_succ']
    refine ⟨?_, by omega⟩
    rw [div_div_pow]
    by_cases hb : bitB word (s + j) = true
    · rw [if_pos hb, (bitB_iff _ _).1 hb]; simp
    · rw [if_neg hb, (bitB_not _ _).1 (by simpa using hb)]; simp
 have rest : ∀ d, ofAcc word m (s + b + d) = (word / 2 ^ s % 2 ^ b, 2 ^ b) ∧ cntAcc m (s + b + d) = b := by
  intro d
  induction d with
  | zero => exact run b (Nat.le_refl _)
  | succ d ih =>
    have hb : bitB m (s + b + d) = false := by rw [bitB_not, ← div_div_pow, hz]; simp
    rw [show s + b + (d + 1) = (s + b + d) + 1 by omega, ofAcc_succ, cntAcc_succ, hb]; simpa using ih
 have := rest (32 - (s + b))
 rw [show s + b + (32 - (s + b)) = 32 by have := h.top; omega] at this
 exact ⟨by unfold ofI; rw [this.1], this.2⟩
theorem shape_word {m : Int} {s b : Nat} (h : Shape m s b) (hz : m / 2 ^ (s + b) = 0) : wordI s b = m := by
 have low : ∀ k, k ≤ s → m % 2 ^ k = 0 := by
  intro k hk
  induction k with
  | zero => simp <;> omega
  | succ k ih => rw [mod_succ, ih (by omega), (bitB_not _ _).1 (h.low k (by omega))]; simp
 have run : ∀ j, j ≤ b → m / 2 ^ s % 2 ^ j = 2 ^ j - 1 := by
  intro j hj
  induction j with
  | zero => simp <;> omega
  | succ j ih => rw [mod_succ, ih (by omega), div_div_pow, (bitB_iff _ _).1 (h.one j (by omega)), pow_succ']; omega
 unfold wordI
 rw [if_pos (shape_right h)]
 have e1 := Int.mul_ediv_add_emod m (2 ^ s)
 rw [low s (Nat.le_refl _)] at e1
 have e2 := Int.mul_ediv_add_emod (m / 2 ^ s) (2 ^ b)
 rw [div_div_pow, hz, run b (Nat.le_refl _)] at e2
 rw [← e2] at e1
 simp only [Int.toNat_natCast]
 rw [Int.mul_comm] at e1; simp at e1; omega
theorem chan_same (m width word none : Int) (he : (aH m width).2.2 = 0) : chI (aH m width).1 (aH m width).2.1 word none = chR word m none ∧ okM (aH m width).1 (aH m width).2.1 := by
 by_cases hm : m = 0
 · subst hm
   have e : aH 0 width = (0, 0, 0) := by
    unfold aH at he ⊢
    split at he
    · simp at he
    · rename_i h1
      rw [if_neg h1]
      split at he
      · simp at he
      · rename_i h2
        rw [if_neg h2, if_pos rfl]
   rw [e]; exact ⟨rfl, Or.inl ⟨rfl, rfl⟩⟩
 · obtain ⟨s, b, h1, h2, h3, h4⟩ := find_good m width he hm
   obtain ⟨a1, a2⟩ := shape_of_acc h3 h4 word
   rw [h1, h2]
   refine ⟨?_, Or.inr (shape_right h3)⟩
   unfold chI chR
   have := h3.pos
   rw [if_neg (by omega), if_neg hm, a1, a2]; simp
theorem bitB_nat (n i : Nat) : bitB n i = n.testBit i := by
 rw [Nat.testBit_eq_decide_div_mod_eq]
 unfold bitB
 have : ((n : Int) / 2 ^ i % 2 = 1) ↔ n / 2 ^ i % 2 = 1 := by
  have e : ((n : Int) / 2 ^ i % 2) = ((n / 2 ^ i % 2 : Nat) : Int) := by rw [Int.natCast_emod, Int.natCast_ediv, Int.natCast_pow]; rfl
  rw [e]; omega
 simp [this]
theorem bothF_iff (a b : Nat) (k : Nat) : bothF a b k = true ↔ ∃ i, i < k ∧ a.testBit i = true ∧ b.testBit i = true := by
 induction k with
 | zero => simp [bothF]
 | succ k ih =>
   rw [bothF_succ, Bool.or_eq_true, ih, Bool.and_eq_true, bitB_nat, bitB_nat]
   constructor
   · rintro (⟨i, h1, h2⟩ | h)
     · exact ⟨i, by omega, h2⟩
     · exact ⟨k, by omega, h⟩
   · rintro ⟨i, h1, h2⟩
     by_cases e : i = k
     · subst e; exact Or.inr h2
     · exact Or.inl ⟨i, by omega, h2⟩
theorem and_ne_zero (a b : Nat) : a &&& b ≠ 0 ↔ ∃ i, a.testBit i = true ∧ b.testBit i = true := by
 constructor
 · intro h
   obtain ⟨i, hi⟩ := Nat.exists_testBit_of_ne_zero h
   rw [Nat.testBit_and, Bool.and_eq_true] at hi
   exact ⟨i, hi⟩
 · rintro ⟨i, h1, h2⟩ h0
   have : (a &&& b).testBit i = true := by rw [Nat.testBit_and, h1, h2]; rfl
   rw [h0] at this; simp at this
theorem anyBoth_iff (l : Nat → Int) (n : Nat) (k : Nat) (hk : l k = (n : Int)) (hn : n < 2 ^ 32) : ∀ j, (∀ i, i < j → 0 ≤ l i) → (anyBoth l k j = true ↔ n &&& seenN l j ≠ 0) := by
 intro j
 induction j with
 | zero => intro _; simp [anyBoth, seenN]
 | succ j ih =>
   intro h
   obtain ⟨m, hm⟩ := Int.eq_ofNat_of_zero_le (h j (by omega))
   rw [anyBoth_succ, Bool.or_eq_true, ih (fun i hi => h i (by omega)), seenN_succ, hk, hm, bothF_iff, and_ne_zero, and_ne_zero]
   constructor
   · rintro (⟨i, h1, h2⟩ | ⟨i, _, h1, h2⟩)
     · exact ⟨i, h1, by rw [Nat.testBit_or, h2]; rfl⟩
     · exact ⟨i, h1, by rw [Nat.testBit_or]; simp [h2]⟩
   · rintro ⟨i, h1, h2⟩
     rw [Nat.testBit_or, Bool.or_eq_true] at h2
     rcases h2 with h2 | h2
     · exact Or.inl ⟨i, h1, h2⟩
     · refine Or.inr ⟨i, ?_, h1, by simpa using h2⟩
       rcases Nat.lt_or_ge i 32 with h3 | h3
       · exact h3
       · rw [Nat.testBit_lt_two_pow (Nat.lt_of_lt_of_le hn (Nat.pow_le_pow_right (by decide) h3))] at h1; simp at h1
theorem step_same (l : Nat → Int) (width : Int) (k : Nat) (h : ∀ j, j < k → ae l width j = 0) : ae l width k = rstep l width k := by
 unfold ae rstep
 rw [(find_same (l k) width).1]
 by_cases he : (rfindI (l k) width).2.2 = 0
 · have hf : (aH (l k) width).2.2 = 0 := by rw [(find_same (l k) width).1]; exact he
   have hr := findI_ok _ _ hf
   obtain ⟨n, hn⟩ := Int.eq_ofNat_of_zero_le hr.1
   have hpos : ∀ i, i < k → 0 ≤ l i := by
    intro i hi
    have hk := h i hi
    have he' : (aH (l i) width).2.2 = 0 := by
     unfold ae at hk; split at hk
     · exact hk
     · rename_i h'; simpa using h'
    exact (findI_ok _ _ he').1
   have ha := anyBoth_iff l n k hn (by omega) k hpos
   have hn' : (l k).toNat = n := by omega
   rw [hn', he]
   by_cases hb : anyBoth l k k = true
   · have := ha.1 hb
     simp [hb, this]
   · have hc : n &&& seenN l k = 0 := Decidable.not_not.1 (fun hc => hb (ha.2 hc))
     simp [hb, hc]
 · simp [he]
theorem scan_congr (f g : Nat → Int) (h0 : f 0 = g 0) (h1 : f 0 = 0 → f 1 = g 1) (h2 : f 0 = 0 → f 1 = 0 → f 2 = g 2) (h3 : f 0 = 0 → f 1 = 0 → f 2 = 0 → f 3 = g 3) : aW f = aW g := by
 unfold aW
 by_cases e0 : f 0 = 0
 · have g0 := h0 ▸ e0; have h1 := h1 e0
   by_cases e1 : f 1 = 0
   · have g1 := h1 ▸ e1; have h2 := h2 e0 e1
     by_cases e2 : f 2 = 0
     · have g2 := h2 ▸ e2; have h3 := h3 e0 e1 e2
       simp [e0, g0, e1, g1, e2, g2, h3]
     · have g2 : ¬ g 2 = 0 := h2 ▸ e2
       simp [e0, g0, e1, g1, g2, h2]
   · have g1 : ¬ g 1 = 0 := h1 ▸ e1
     simp [e0, g0, g1, h1]
 · have g0 : ¬ g 0 = 0 := h0 ▸ e0
   simp [g0, h0]
theorem scan_same (l : Nat → Int) (width : Int) : aW (ae l width) = aW (rstep l width) :=
 scan_congr _ _ (step_same l width 0 (fun j hj => by omega))
  (fun e0 => step_same l width 1 (fun j hj => by obtain rfl : j = 0 := by omega
                                                 exact e0))
  (fun e0 e1 => step_same l width 2 (fun j hj => by rcases (show j = 0 ∨ j = 1 by omega) with rfl | rfl
                                                    · exact e0
                                                    · exact e1))
  (fun e0 e1 e2 => step_same l width 3 (fun j hj => by rcases (show j = 0 ∨ j = 1 ∨ j = 2 by omega) with rfl | rfl | rfl
                                                       · exact e0
                                                       · exact e1
                                                       · exact e2))
theorem scan_ok (f : Nat → Int) (h : (aW f).2 = 0) : f 0 = 0 ∧ f 1 = 0 ∧ f 2 = 0 ∧ f 3 = 0 := by
 unfold aW at h
 by_cases h0 : f 0 = 0
 · rw [if_neg (by simp [h0])] at h
   by_cases h1 : f 1 = 0
   · rw [if_neg (by simp [h1])] at h
     by_cases h2 : f 2 = 0
     · rw [if_neg (by simp [h2])] at h
       by_cases h3 : f 3 = 0
       · exact ⟨h0, h1, h2, h3⟩
       · rw [if_pos h3] at h; exact absurd h h3
     · rw [if_pos h2] at h; exact absurd h h2
   · rw [if_pos h1] at h; exact absurd h h1
 · rw [if_pos h0] at h; exact absurd h h0
theorem pstep_ok (l : Nat → Int) (width : Int) (k : Nat) (h : ae l width k = 0) : (aH (l k) width).2.2 = 0 := by
 unfold ae at h; split at h
 · exact h
 · rename_i h'; simpa using h'
theorem find_word (m width : Int) (he : (aH m width).2.2 = 0) : wordI (aH m width).1 (aH m width).2.1 = m := by
 by_cases hm : m = 0
 · subst hm
   have e : aH 0 width = (0, 0, 0) := by
    unfold aH at he ⊢
    split at he
    · simp at he
    · rename_i h1
      rw [if_neg h1]
      split at he
      · simp at he
      · rename_i h2
        rw [if_neg h2, if_pos rfl]
   rw [e]; rfl
 · obtain ⟨s, b, h1, h2, h3, h4⟩ := find_good m width he hm
   rw [h1, h2]; exact shape_word h3 h4
theorem firstW_no {L : List Fnd} (h : (aO L).2 = false) : ∀ r ∈ L, r.1 = false := by
 induction L with
 | nil => intro r hr; cases hr
 | cons a t ih =>
   unfold aO at h
   intro r hr
   by_cases ha : a.1 = true
   · rw [if_pos ha] at h; cases h
   · rw [if_neg ha] at h
     rcases List.mem_cons.1 hr with rfl | hr
     · simpa using ha
     · exact ih h r hr
theorem firstW_in {L : List Fnd} (h : (aO L).2 = true) : (aO L).1 ∈ L := by
 induction L with
 | nil => cases h
 | cons a t ih =>
   unfold aO at h ⊢
   by_cases ha : a.1 = true
   · rw [if_pos ha]; exact List.mem_cons_self
   · rw [if_neg ha] at h ⊢; exact List.mem_cons_of_mem _ (ih h)
theorem fdOf_kind (b : ByteArray) (h : (aO (fdOf b)).2 = true) : (aO (fdOf b)).1.2.1 ≠ 0 := by
 have hin := firstW_in h
 have key : ∀ r ∈ fdOf b, r.2.1 ≠ 0 := by
  unfold fdOf; split
  · unfold smallF sidesF; intro r hr; simp at hr; rcases hr with rfl | rfl | rfl | rfl | rfl | rfl <;> simp
  · unfold aj sidesF; intro r hr; simp at hr; rcases hr with rfl | rfl | rfl | rfl | rfl | rfl | rfl | rfl | rfl | rfl <;> simp
 exact key _ hin
structure Hd.fine (a : Hd) : Prop where
 hd : aU a.sz = true
 w1 : 1 ≤ a.w
 w2 : a.w ≤ 16384
 dp : a.dp = 1 ∨ a.dp = 4 ∨ a.dp = 8 ∨ a.dp = 16 ∨ a.dp = 24 ∨ a.dp = 32
theorem dpB_in {n : Int} {more : Bool} (h : dpB n more = true) : n = 1 ∨ n = 4 ∨ n = 8 ∨ n = 16 ∨ n = 24 ∨ n = 32 := by
 unfold dpB at h; simp at h; omega
theorem dpB_no {n : Int} (h : dpB n false = true) : n = 1 ∨ n = 4 ∨ n = 8 ∨ n = 24 := by
 unfold dpB at h; simp at h; omega
theorem hd_fine (b : ByteArray) (hd : aU b.size = true) (h : (aO (fdOf b)).2 = false) : (ao b).fine ∧ (b.size = 12 → (ao b).dp = 1 ∨ (ao b).dp = 4 ∨ (ao b).dp = 8 ∨ (ao b).dp = 24) := by
 have hn := firstW_no h
 by_cases h12 : b.size = 12
 · have e1 : fdOf b = smallF b := by unfold fdOf; rw [if_pos h12]
   have e2 : ao b = smallH b := by unfold ao; rw [if_pos h12]
   rw [e1] at hn
   rw [e2]
   unfold smallF sidesF at hn
   have a1 := hn _ (by simp only [List.cons_append, List.nil_append]; exact List.mem_cons_self)
   have a2 := hn _ (by simp only [List.cons_append, List.nil_append]; exact List.mem_cons_of_mem _ List.mem_cons_self)
   have a6 := hn (!dpB (aC b 10 2) false, 3, 10) (by simp)
   have d := dpB_no (show dpB (aC b 10 2) false = true by simpa using a6)
   simp only [decide_eq_false_iff_not] at a1 a2
   exact ⟨⟨rfl, by show 1 ≤ aC b 4 2; omega, by show aC b 4 2 ≤ 16384; omega, by show aC b 10 2 = 1 ∨ _; unfold smallH; simp only; omega⟩, fun _ => d⟩
 · have e1 : fdOf b = aj b := by unfold fdOf; rw [if_neg h12]
   have e2 : ao b = greatH b := by unfold ao; rw [if_neg h12]
   rw [e1] at hn
   rw [e2]
   unfold aj sidesF at hn
   have a1 := hn _ (by simp only [List.cons_append, List.nil_append]; exact List.mem_cons_self)
   have a2 := hn _ (by simp only [List.cons_append, List.nil_append]; exact List.mem_cons_of_mem _ List.mem_cons_self)
   have a6 := hn (!dpB (aC b 14 2) true, 3, 14) (by simp)
   have d := dpB_in (show dpB (aC b 14 2) true = true by simpa using a6)
   simp only [decide_eq_false_iff_not] at a1 a2
   exact ⟨⟨hd, by show 1 ≤ ab (aC b 4 4); omega, by show ab (aC b 4 4) ≤ 16384; omega, d⟩, fun h => absurd h h12⟩
def mWords (m : List Int) (r g b a : Int) : Prop := ∃ k0 k1 k2 k3 k4 k5 k6 k7, m = [k0, k1, k2, k3, k4, k5, k6, k7] ∧ wordI k0 k1 = r ∧ wordI k2 k3 = g ∧ wordI k4 k5 = b ∧ wordI k6 k7 = a
theorem mk8_words (l : Nat → Int) (dp : Int) (h : (aW (ae l dp)).2 = 0) : mWords (mk8 l dp) (l 0) (l 1) (l 2) (l 3) := by
 obtain ⟨h0, h1, h2, h3⟩ := scan_ok _ h
 unfold mk8
 rw [if_pos h]
 exact ⟨_, _, _, _, _, _, _, _, rfl, find_word _ _ (pstep_ok _ _ _ h0), find_word _ _ (pstep_ok _ _ _ h1), find_word _ _ (pstep_ok _ _ _ h2), find_word _ _ (pstep_ok _ _ _ h3)⟩
theorem hEnd_same (s : ByteArray) (p n e : Nat) (h : Hd) (f : Int) (hp : p + e ≤ s.size) (h52 : 52 ≤ e) (h56 : 56 ≤ h.sz → 56 ≤ e) :
 hEnd (s.extract p (p + e)) h f p = if (aW (rstep (mkR s p h.sz) h.dp)).2 != 0 then (zero16, [J I 2, J I f, J I ((p : Int) + 40 + 4 * (aW (rstep (mkR s p h.sz) h.dp)).1)]) else (h.at (mk8 (mkR s p h.sz) h.dp) p, zero3) := by
 have e1 : mkL (s.extract p (p + e)) h.sz = mkR s p h.sz := by
  funext k
  unfold mkL mkR
  rw [lowK_ext s p (p + e) 40 4 (by omega) hp, lowK_ext s p (p + e) 44 4 (by omega) hp, lowK_ext s p (p + e) 48 4 (by omega) hp]
  by_cases h3 : 56 ≤ h.sz
  · rw [if_pos h3, if_pos h3, lowK_ext s p (p + e) 52 4 (by have := h56 h3; omega) hp]
  · rw [if_neg h3, if_neg h3]
 unfold hEnd
 rw [e1, scan_same, Int.add_assoc]
theorem work_n (l : Led) (hb : l.br = false) (hw : l.st + 1 ≤ l.mx) : l.work 1 = ({ l with st := l.st + 1 }, true) := by
 unfold Led.work
 rw [if_neg (by rw [hb]; decide), if_neg (by omega)]
theorem next_w (x : Sr) (l : Led) (n : Nat) (hb : l.br = false) (hw : l.st + 1 ≤ l.mx) (he : x.e = x.s.size) (hpe : x.p ≤ x.e) : x.next l n = if x.s.size < x.p + n then ((x, { l with st := l.st + 1 }), (ByteArray.empty, false)) else (({ x with p := x.p + n }, { l with st := l.st + 1 }), (x.s.extract x.p (x.p + n), true)) := by
 unfold Sr.next
 rw [work_n l hb hw]
 by_cases h : x.s.size < x.p + n
 · rw [if_pos h, if_neg (by omega)]
 · rw [if_neg h, if_pos ⟨rfl, by omega, by omega⟩, Int.toNat_natCast]
theorem dib_eq (x : Sr) (l : Led) (f : Int) (hx : x.ok) (he : x.e = x.s.size) (hs : x.s.size ≤ 100000) (hb : l.br = false) (hw : l.st + 3 ≤ l.mx) :
 (∃ k a : Int, k ≠ 0 ∧ aZ x.s x.p = aN k a ∧ (aJ x l f).1 = (zero16, [J I k, J I f, J I a])) ∨
 (∃ (H : Hd) (m : List Int) (r g b q en : Int), H.fine ∧ aZ x.s x.p = rOk H r g b q x.p en ∧ (aJ x l f).1 = (H.at m x.p, zero3) ∧ mWords m r g b q ∧ ((aJ x l f).2.1.p : Int) = en ∧ H.sz = aC x.s x.p 4 ∧ en = (x.p : Int) + (if H.sz = 40 ∧ H.mt = 3 then 52 else H.sz) ∧ (∃ n : Nat, aC x.s x.p 4 = n ∧ H = ao (x.s.extract x.p (x.p + n))) ∧ m = (if H.mt = 3 then mk8 (mkR x.s x.p H.sz) H.dp else comM H.dp)) := by
 have hpe := hx.pe
 have n4 := next_w x l 4 hb (by omega) he hpe
 have n4 : x.next l 4 = _ := n4
 have fL : ∀ (y : Sr) (m : Led), m.br = false → aK y m f = [J I 1, J I f, J I y.e] := by
  intro y m hm; unfold aK; rw [if_neg (by rw [hm]; decide)]
 unfold aZ
 by_cases h4 : x.s.size < x.p + 4
 · left
   rw [if_pos h4] at n4 ⊢
   refine ⟨1, x.s.size, by decide, rfl, ?_⟩
   unfold aJ tkOk ac
   rw [n4]
   simp only [Bool.false_and, if_true]
   rw [fL x { l with st := l.st + 1 } hb, he]
 rw [if_neg h4] at n4 ⊢
 have lo4 : aC (x.s.extract x.p (x.p + 4)) 0 4 = aC x.s x.p 4 := lowK_ext x.s x.p (x.p + 4) 0 4 (by omega) (by omega)
 obtain ⟨n, hn⟩ : ∃ n : Nat, aC x.s x.p 4 = n := ⟨_, (Int.toNat_of_nonneg (ah x.s x.p 4).1).symm⟩
 rw [hn] at lo4 ⊢
 rw [Int.toNat_natCast]
 have hk : knownH n = (aU n || ((n : Int) == 16 || (n : Int) == 64)) := rfl
 by_cases hh : aU n = false
 · left
   have hok : tkOk x l = false := by unfold tkOk; rw [n4]; simp only [lo4, hh]; rfl
   by_cases h16 : ((n : Int) == 16 || (n : Int) == 64) = true
   · rw [if_pos h16]
     refine ⟨3, x.p, by decide, rfl, ?_⟩
     unfold aJ
     rw [if_pos hok]
     unfold ac
     rw [n4]
     simp only [lo4, hh, hk, h16, Bool.false_or, if_true, if_false, Bool.true_eq_false, Bool.false_eq_true]
   · rw [if_neg h16, if_pos hh]
     refine ⟨2, x.p, by decide, rfl, ?_⟩
     unfold aJ
     rw [if_pos hok]
     unfold ac
     rw [n4]
     simp only [lo4, hh, hk, h16, Bool.false_or, if_true, if_false, Bool.true_eq_false, Bool.false_eq_true]
 have hh : aU n = true := by simpa using hh
 have hnc := heads_le hh
 have h16 : ¬ ((n : Int) == 16 || (n : Int) == 64) = true := by
  unfold aU at hh; simp at hh ⊢; omega
 rw [if_neg h16, if_neg (by rw [hh]; decide)]
 have n5 := next_w { x with p := x.p + 4 } { l with st := l.st + 1 } (n - 4) hb (by simp only; omega) he (by simp only; omega)
 rw [show ((n - 4 : Nat) : Int) = (n : Int) - 4 by omega] at n5
 simp only [show x.p + 4 + (n - 4) = x.p + n by omega] at n5
 by_cases h5 : x.s.size < x.p + n
 · left
   rw [if_pos (by omega)]
   rw [if_pos h5] at n5
   refine ⟨1, x.s.size, by decide, rfl, ?_⟩
   have hok : tkOk x l = false := by unfold tkOk; rw [n4]; simp only [lo4, n5, Bool.and_false]
   unfold aJ
   rw [if_pos hok]
   unfold ac
   rw [n4]
   simp only [lo4, hh, n5, if_true, if_false, Bool.true_eq_false]
   rw [fL { x with p := x.p + 4 } { l with st := l.st + 1 + 1 } hb]
   simp only [he]
 rw [if_neg (by omega)]
 rw [if_neg h5] at n5
 have hok : tkOk x l = true := by unfold tkOk; rw [n4]; simp only [lo4, hh, n5]; rfl
 obtain ⟨n', ⟨-, -, -, hbt, hst, hlo, -, -⟩⟩ := tk_good f hx hok
 obtain rfl : n' = n := by omega
 have hrun : aJ x l f = hRun x l f (x.s.extract x.p (x.p + n')) { x with p := x.p + n' } { l with st := l.st + 2 } (ao (x.s.extract x.p (x.p + n'))) (aO (fdOf (x.s.extract x.p (x.p + n')))) := by
  unfold aJ
  rw [if_neg (by rw [hok]; decide), hbt, hst, work_n l hb (by omega), work_n { l with st := l.st + 1 } hb (by simp only; omega)]
  simp only [Int.add_assoc]
  rfl
 obtain ⟨b, hbb⟩ : ∃ b, x.s.extract x.p (x.p + n') = b := ⟨_, rfl⟩
 have hbn : b.size = n' := by rw [← hbb, ByteArray.size_extract]; omega
 rw [hbb] at hrun ⊢
 have hbd : aU b.size = true := by rw [hbn]; exact hh
 by_cases hF : (aO (fdOf b)).2 = true
 · left
   refine ⟨(aO (fdOf b)).1.2.1, (x.p : Int) + (aO (fdOf b)).1.2.2, fdOf_kind b hF, ?_, ?_⟩
   · by_cases h12 : n' = 12
     · have e1 : fdOf b = smallF b := by unfold fdOf; rw [if_pos (by omega)]
       rw [e1] at hF ⊢
       rw [if_pos (by rw [h12]; rfl)]
       unfold rShort
       rw [if_pos hF]
     · have e1 : fdOf b = aj b := by unfold fdOf; rw [if_neg (by omega)]
       rw [e1] at hF ⊢
       rw [if_neg (by simp; omega), if_pos hF]
   · rw [hrun]; unfold hRun; rw [if_pos hF]
 have hF' : (aO (fdOf b)).2 = false := by simpa using hF
 obtain ⟨fine, fine12⟩ := hd_fine b hbd hF'
 have hrun2 := hrun
 unfold hRun at hrun2
 rw [if_neg hF] at hrun2
 clear hrun
 by_cases h12 : n' = 12
 · right
   have e1 : fdOf b = smallF b := by unfold fdOf; rw [if_pos (by omega)]
   have e2 : ao b = smallH b := by unfold ao; rw [if_pos (by omega)]
   have e3 : comM (smallH b).dp = z8 := by
    have := fine12 (by omega); rw [e2] at this
    unfold comM; rw [if_neg (by omega), if_neg (by omega)]
   rw [e1] at hF
   rw [e2] at hrun2 fine
   rw [if_neg (show ¬ ((smallH b).mt == 3) = true from by exact Bool.false_ne_true), e3] at hrun2
   refine ⟨smallH b, z8, 0, 0, 0, 0, (x.p : Int) + 12, fine, ?_, by rw [hrun2], ⟨0, 0, 0, 0, 0, 0, 0, 0, rfl, rfl, rfl, rfl, rfl⟩, by rw [hrun2]; simp only; omega, by rw [h12]; rfl, by rw [if_neg (by rintro ⟨a1, -⟩; exact absurd (show (12 : Int) = 40 from a1) (by decide))]; rfl, ⟨n', rfl, by rw [hbb, e2]⟩, by rw [if_neg (show ¬ (smallH b).mt = 3 from by show ¬ (0 : Int) = 3; decide), e3]⟩
   rw [if_pos (by rw [h12]; rfl)]
   unfold rShort
   rw [if_neg hF]
 have e1 : fdOf b = aj b := by unfold fdOf; rw [if_neg (by omega)]
 have e2 : ao b = greatH b := by unfold ao; rw [if_neg (by omega)]
 rw [if_neg (by simp; omega), if_neg (by rw [← e1]; exact hF)]
 rw [e2] at hrun2 fine
 have hsz : (greatH b).sz = n' := by rw [← hbn]; rfl
 have hn40 : n' = 40 ∨ n' = 52 ∨ n' = 56 ∨ n' = 108 ∨ n' = 124 := by unfold aU at hh; simp at hh; omega
 obtain ⟨h, hhd⟩ : ∃ h, greatH b = h := ⟨_, rfl⟩
 rw [hhd] at hrun2 fine hsz ⊢
 have hH : h = ao (x.s.extract x.p (x.p + n')) := by rw [hbb, e2, hhd]
 clear e1 e2 hF hF' fine12 hhd
 unfold rMk
 by_cases h3 : (h.mt == 3) = true
 · rw [if_pos h3] at hrun2 ⊢
   have key : ∀ e : Nat, x.p + e ≤ x.s.size → 52 ≤ e → (56 ≤ h.sz → 56 ≤ e) → ∀ (y : Sr) (m : Led), aJ x l f = (hEnd (x.s.extract x.p (x.p + e)) h f x.p, (y, m)) → ∀ en : Int, (y.p : Int) = en → en = (x.p : Int) + (if h.sz = 40 ∧ h.mt = 3 then 52 else h.sz) →
    (∃ k a : Int, k ≠ 0 ∧ (if ((aW (rstep (mkR x.s x.p h.sz) h.dp)).2 != 0) = true then aN 2 ((x.p : Int) + 40 + 4 * (aW (rstep (mkR x.s x.p h.sz) h.dp)).1) else rOk h (mkR x.s x.p h.sz 0) (mkR x.s x.p h.sz 1) (mkR x.s x.p h.sz 2) (mkR x.s x.p h.sz 3) x.p en) = aN k a ∧ (aJ x l f).1 = (zero16, [J I k, J I f, J I a])) ∨
    (∃ (H : Hd) (m : List Int) (r g b q en' : Int), H.fine ∧ (if ((aW (rstep (mkR x.s x.p h.sz) h.dp)).2 != 0) = true then aN 2 ((x.p : Int) + 40 + 4 * (aW (rstep (mkR x.s x.p h.sz) h.dp)).1) else rOk h (mkR x.s x.p h.sz 0) (mkR x.s x.p h.sz 1) (mkR x.s x.p h.sz 2) (mkR x.s x.p h.sz 3) x.p en) = rOk H r g b q x.p en' ∧ (aJ x l f).1 = (H.at m x.p, zero3) ∧ mWords m r g b q ∧ ((aJ x l f).2.1.p : Int) = en' ∧ H.sz = n' ∧ en' = (x.p : Int) + (if H.sz = 40 ∧ H.mt = 3 then 52 else H.sz) ∧ (∃ n : Nat, (n' : Int) = n ∧ H = ao (x.s.extract x.p (x.p + n))) ∧ m = (if H.mt = 3 then mk8 (mkR x.s x.p H.sz) H.dp else comM H.dp)) := by
    intro e a1 a2 a3 y m hr en hy hen
    rw [hEnd_same x.s x.p n' e h f a1 a2 a3] at hr
    by_cases hsc : ((aW (rstep (mkR x.s x.p h.sz) h.dp)).2 != 0) = true
    · left
      rw [if_pos hsc] at hr ⊢
      exact ⟨2, _, by decide, rfl, by rw [hr]⟩
    · right
      rw [if_neg hsc] at hr ⊢
      refine ⟨h, _, _, _, _, _, en, fine, rfl, by rw [hr], ?_, by rw [hr]; exact hy, hsz, hen, ⟨n', rfl, hH⟩, by rw [if_pos (eq_of_beq h3)]⟩
      refine mk8_words _ _ ?_
      rw [scan_same]; simpa using hsc
   by_cases h40 : (h.sz == 40) = true
   · rw [if_pos h40] at hrun2 ⊢
     have h40' : n' = 40 := by have := eq_of_beq h40; omega
     have n6 := next_w { x with p := x.p + n' } { l with st := l.st + 2 } 12 hb (by simp only; omega) he (by simp only; omega)
     have n6 : Sr.next { x with p := x.p + n' } { l with st := l.st + 2 } 12 = _ := n6
     by_cases h6 : x.s.size < x.p + 52
     · left
       rw [if_pos (by simp only; omega)] at n6
       rw [n6, if_neg (by exact Bool.false_ne_true)] at hrun2
       rw [if_pos (by omega)]
       exact ⟨1, x.s.size, by decide, rfl, by rw [hrun2]; simp only; rw [fL { x with p := x.p + n' } { l with st := l.st + 2 + 1 } hb]; simp only [he]⟩
     · rw [if_neg (by simp only; omega)] at n6
       rw [n6, if_pos rfl] at hrun2
       rw [if_neg (by omega)]
       have hcat : b ++ x.s.extract (x.p + n') (x.p + n' + 12) = x.s.extract x.p (x.p + 52) := by
        rw [← hbb, ext_app x.s x.p (x.p + n') (x.p + n' + 12) (by omega) (by omega), show x.p + n' + 12 = x.p + 52 by omega]
       simp only [hcat] at hrun2
       exact key 52 (by omega) (by omega) (by omega) _ _ hrun2 _ (by simp only; omega) (by rw [if_pos ⟨eq_of_beq h40, eq_of_beq h3⟩])
   · rw [if_neg h40] at hrun2 ⊢
     have h40' : n' ≠ 40 := by rintro rfl; rw [hsz] at h40; exact h40 rfl
     rw [if_neg (by omega)]
     rw [← hbb] at hrun2
     exact key n' (by omega) (by omega) (by omega) _ _ hrun2 _ (by simp only; omega) (by rw [if_neg (by rintro ⟨a1, -⟩; omega), hsz])
 · right
   rw [if_neg h3] at hrun2 ⊢
   by_cases h16 : h.dp = 16
   · rw [if_pos (by rw [h16]; rfl)]
     refine ⟨h, _, _, _, _, _, _, fine, rfl, by rw [hrun2], ?_, by rw [hrun2]; simp only; omega, hsz, by rw [if_neg (by rintro ⟨-, a2⟩; exact h3 (by rw [a2]; rfl)), hsz], ⟨n', rfl, hH⟩, by rw [if_neg (fun e => h3 (by rw [e]; rfl))]⟩
     unfold comM; rw [if_pos h16]
     exact ⟨_, _, _, _, _, _, _, _, rfl, by decide, by decide, by decide, by decide⟩
   by_cases h32 : h.dp = 32
   · rw [if_neg (by simp [h16]), if_pos (by rw [h32]; rfl)]
     refine ⟨h, _, _, _, _, _, _, fine, rfl, by rw [hrun2], ?_, by rw [hrun2]; simp only; omega, hsz, by rw [if_neg (by rintro ⟨-, a2⟩; exact h3 (by rw [a2]; rfl)), hsz], ⟨n', rfl, hH⟩, by rw [if_neg (fun e => h3 (by rw [e]; rfl))]⟩
     unfold comM; rw [if_neg h16, if_pos h32]
     exact ⟨_, _, _, _, _, _, _, _, rfl, by decide, by decide, by decide, by decide⟩
   · rw [if_neg (by simp [h16]), if_neg (by simp [h32])]
     refine ⟨h, _, _, _, _, _, _, fine, rfl, by rw [hrun2], ?_, by rw [hrun2]; simp only; omega, hsz, by rw [if_neg (by rintro ⟨-, a2⟩; exact h3 (by rw [a2]; rfl)), hsz], ⟨n', rfl, hH⟩, by rw [if_neg (fun e => h3 (by rw [e]; rfl))]⟩
     unfold comM; rw [if_neg h16, if_neg h32]
     exact ⟨_, _, _, _, _, _, _, _, rfl, rfl, rfl, rfl, rfl⟩
theorem map_set {α β : Type} (f : α → β) (L : List α) (i : Nat) (x : α) : (L.map f).set i (f x) = (L.set i x).map f := by simp
theorem Obj1.setL {w : World} {g : Nat} {L : List Int} {T : TypeId} (h : Obj1 w g (L.map (.int .u8)).toArray T) (i : Nat) (x : Int) : Obj1 (w.setCell ⟨g, i, none⟩ (J U x)) g ((L.set i x).map (.int .u8)).toArray T := by
 have h1 := h.set i (J U x)
 rw [List.setIfInBounds_toArray, map_set] at h1
 exact h1
section
variable (n : Nat) (W h dp mt co : Int) (hn : 40 ≤ n)
end
structure OutIs (S : ByteArray) (W h dp mt co : Int) : Prop where
 z : S.size = if mt = 3 then 52 else 40
 f0 : aC S 0 4 = 40
 f4 : aC S 4 4 = W % 4294967296
 f8 : aC S 8 4 = h % 4294967296
 f12 : aC S 12 2 = 1
 f14 : aC S 14 2 = dp % 65536
 f16 : aC S 16 4 = mt % 4294967296
 f32 : aC S 32 4 = co % 4294967296
def putC (xs : List Value) (p : Nat) (c : List Value) : List Value := xs.take p ++ (c ++ xs.drop (p + c.length))
theorem putC_len (xs : List Value) (p : Nat) (c : List Value) (h : p + c.length ≤ xs.length) : (putC xs p c).length = xs.length := by
 unfold putC; rw [List.length_append, List.length_append, List.length_take, List.length_drop]; omega
theorem putC_get (xs : List Value) (p : Nat) (c : List Value) (h : p + c.length ≤ xs.length) (i : Nat) : (putC xs p c)[i]? = if p ≤ i ∧ i < p + c.length then c[i - p]? else xs[i]? := by
 unfold putC
 by_cases h1 : i < p
 · rw [List.getElem?_append_left (by rw [List.length_take]; omega), if_neg (by omega), List.getElem?_take, if_pos h1]
 · rw [List.getElem?_append_right (by rw [List.length_take]; omega), List.length_take, show i - min p xs.length = i - p by omega]
   by_cases h2 : i < p + c.length
   · rw [List.getElem?_append_left (by omega), if_pos (by omega)]
   · rw [List.getElem?_append_right (by omega), if_neg (by omega), List.getElem?_drop]; congr 1; omega
theorem putC_all {xs c : List Value} {p : Nat} (hx : ∀ u ∈ xs, u.oneCell' = true) (hc : ∀ u ∈ c, u.oneCell' = true) : ∀ u ∈ putC xs p c, u.oneCell' = true := by
 intro u hu
 unfold putC at hu
 rw [List.mem_append, List.mem_append] at hu
 rcases hu with hu | hu | hu
 · exact hx u (List.mem_of_mem_take hu)
 · exact hc u hu
 · exact hx u (List.mem_of_mem_drop hu)
theorem putC_nil (xs : List Value) (p : Nat) : putC xs p [] = xs := by
 unfold putC; simp
theorem putC_putC (xs : List Value) (p : Nat) (c e : List Value) (h : p + c.length + e.length ≤ xs.length) : putC (putC xs p c) (p + c.length) e = putC xs p (c ++ e) := by
 apply List.ext_getElem?
 intro i
 rw [putC_get _ _ _ (by rw [putC_len _ _ _ (by omega)]; omega), putC_get _ _ _ (by omega), putC_get _ _ _ (by rw [List.length_append]; omega), List.length_append]
 by_cases h1 : p + c.length ≤ i ∧ i < p + c.length + e.length
 · rw [if_pos h1, if_pos (by omega), List.getElem?_append_right (by omega)]; congr 1; omega
 · rw [if_neg h1]
   by_cases h2 : p ≤ i ∧ i < p + c.length
   · rw [if_pos h2, if_pos (by omega), List.getElem?_append_left (by omega)]
   · rw [if_neg h2, if_neg (by omega)]
structure S22 where
 x : Nat
 y : Nat
 pl : Nat
 L : List Value
def pxC (tb : List Value) (k : Nat) : List Value := (tb.drop (4 * k)).take 4
theorem pxC_len (tb : List Value) (M k : Nat) (h : tb.length = 4 * M) (hk : k < M) : (pxC tb k).length = 4 := by
 unfold pxC; rw [List.length_take, List.length_drop]; omega
theorem pxC_all {tb : List Value} {k : Nat} (h : ∀ u ∈ tb, u.oneCell' = true) : ∀ u ∈ pxC tb k, u.oneCell' = true := fun u hu => h u (List.mem_of_mem_drop (List.mem_of_mem_take hu))
abbrev E22 := Except (Int × Int)
def runP (tb : List Value) (M : Nat) (b d : Int) (pl : Nat) : Nat → E22 (List Value)
 | 0 => .ok []
 | n + 1 => match runP tb M b d pl n with
   | .error e => .error e
   | .ok p => if (aT b d n).toNat < M then .ok (p ++ pxC tb (aT b d n).toNat) else .error (2, (pl : Int) + 1)
theorem runP_len (tb : List Value) (M : Nat) (b d : Int) (pl : Nat) (hT : tb.length = 4 * M) (n : Nat) : ∀ p, runP tb M b d pl n = .ok p → p.length = 4 * n := by
 induction n with
 | zero => intro p h; rw [runP] at h; injection h with h; rw [← h]; rfl
 | succ n ih =>
   intro p h
   rw [runP] at h
   cases hr : runP tb M b d pl n with
   | error e => rw [hr] at h; cases h
   | ok q =>
     rw [hr] at h; dsimp only at h
     by_cases hk : (aT b d n).toNat < M
     · rw [if_pos hk] at h; injection h with h
       rw [← h, List.length_append, ih q hr, pxC_len tb M _ hT hk]; omega
     · rw [if_neg hk] at h; cases h
theorem runP_all (tb : List Value) (M : Nat) (b d : Int) (pl : Nat) (hT : ∀ u ∈ tb, u.oneCell' = true) (n : Nat) : ∀ p, runP tb M b d pl n = .ok p → ∀ u ∈ p, u.oneCell' = true := by
 induction n with
 | zero => intro p h; rw [runP] at h; injection h with h; rw [← h]; intro u hu; cases hu
 | succ n ih =>
   intro p h
   rw [runP] at h
   cases hr : runP tb M b d pl n with
   | error e => rw [hr] at h; cases h
   | ok q =>
     rw [hr] at h; dsimp only at h
     by_cases hk : (aT b d n).toNat < M
     · rw [if_pos hk] at h; injection h with h
       rw [← h]; intro u hu
       rcases List.mem_append.1 hu with hu | hu
       · exact ih q hr u hu
       · exact pxC_all hT u hu
     · rw [if_neg hk] at h; cases h
def ad (s : ByteArray) (tb : List Value) (M : Nat) (d : Int) (pl te : Nat) : Nat → E22 (List Value)
 | 0 => .ok []
 | n + 1 => match ad s tb M d pl te n with
   | .error e => .error e
   | .ok p => if te ≤ pl + 2 + n / (8 / d).toNat then .error (1, te) else
     if (aT (aG s (pl + 2 + n / (8 / d).toNat)) d n).toNat < M then .ok (p ++ pxC tb (aT (aG s (pl + 2 + n / (8 / d).toNat)) d n).toNat) else .error (2, (pl : Int) + 2 + (n / (8 / d).toNat : Nat))
theorem plainP_err (s : ByteArray) (tb : List Value) (M : Nat) (d : Int) (pl te i k : Nat) (e : Int × Int) (h : ad s tb M d pl te i = .error e) : ad s tb M d pl te (i + k) = .error e := by
 induction k with
 | zero => exact h
 | succ k ih => rw [← Nat.add_assoc, ad, ih]
theorem plainP_len (s : ByteArray) (tb : List Value) (M : Nat) (d : Int) (pl te : Nat) (hT : tb.length = 4 * M) (n : Nat) : ∀ p, ad s tb M d pl te n = .ok p → p.length = 4 * n := by
 induction n with
 | zero => intro p h; rw [ad] at h; injection h with h; rw [← h]; rfl
 | succ n ih =>
   intro p h
   rw [ad] at h
   cases hr : ad s tb M d pl te n with
   | error e => rw [hr] at h; cases h
   | ok q =>
     rw [hr] at h; dsimp only at h
     by_cases hb : te ≤ pl + 2 + n / (8 / d).toNat
     · rw [if_pos hb] at h; cases h
     rw [if_neg hb] at h
     by_cases hk : (aT (aG s (pl + 2 + n / (8 / d).toNat)) d n).toNat < M
     · rw [if_pos hk] at h; injection h with h
       rw [← h, List.length_append, ih q hr, pxC_len tb M _ hT hk]; omega
     · rw [if_neg hk] at h; cases h
theorem plainP_all (s : ByteArray) (tb : List Value) (M : Nat) (d : Int) (pl te : Nat) (hT : ∀ u ∈ tb, u.oneCell' = true) (n : Nat) : ∀ p, ad s tb M d pl te n = .ok p → ∀ u ∈ p, u.oneCell' = true := by
 induction n with
 | zero => intro p h; rw [ad] at h; injection h with h; rw [← h]; intro u hu; cases hu
 | succ n ih =>
   intro p h
   rw [ad] at h
   cases hr : ad s tb M d pl te n with
   | error e => rw [hr] at h; cases h
   | ok q =>
     rw [hr] at h; dsimp only at h
     by_cases hb : te ≤ pl + 2 + n / (8 / d).toNat
     · rw [if_pos hb] at h; cases h
     rw [if_neg hb] at h
     by_cases hk : (aT (aG s (pl + 2 + n / (8 / d).toNat)) d n).toNat < M
     · rw [if_pos hk] at h; injection h with h
       rw [← h]; intro u hu
       rcases List.mem_append.1 hu with hu | hu
       · exact ih q hr u hu
       · exact pxC_all hT u hu
     · rw [if_neg hk] at h; cases h
def run22 (s : ByteArray) (tb : List Value) (M W H : Nat) (d : Int) (σ : S22) (n : Nat) : E22 S22 :=
 if H ≤ σ.y ∨ W < σ.x + n then .error (2, σ.pl) else
 match runP tb M (aG s (σ.pl + 1)) d σ.pl n with
 | .error e => .error e
 | .ok p => .ok ⟨σ.x + n, σ.y, σ.pl + 2, putC σ.L (4 * ((H - 1 - σ.y) * W + σ.x)) p⟩
def sizeP (d : Int) (n : Nat) : Nat := (n + (8 / d).toNat - 1) / (8 / d).toNat
def plain22 (s : ByteArray) (tb : List Value) (M W H : Nat) (d : Int) (te : Nat) (σ : S22) (n : Nat) : E22 S22 :=
 if H ≤ σ.y ∨ W < σ.x + n then .error (2, σ.pl) else
 match ad s tb M d σ.pl te n with
 | .error e => .error e
 | .ok p => if te < σ.pl + 2 + sizeP d n + sizeP d n % 2 then .error (1, te) else .ok ⟨σ.x + n, σ.y, σ.pl + 2 + sizeP d n + sizeP d n % 2, putC σ.L (4 * ((H - 1 - σ.y) * W + σ.x)) p⟩
def move22 (W H : Nat) (x y pl pl0 : Nat) (L : List Value) : E22 S22 := if W < x ∨ H < y then .error (2, pl0) else .ok ⟨x, y, pl, L⟩
def step22 (s : ByteArray) (tb : List Value) (M W H : Nat) (d : Int) (te : Nat) (σ : S22) : E22 S22 :=
 if 0 < aG s σ.pl then run22 s tb M W H d σ (aG s σ.pl).toNat else
 if 2 < aG s (σ.pl + 1) then plain22 s tb M W H d te σ (aG s (σ.pl + 1)).toNat else
 if aG s (σ.pl + 1) = 0 then move22 W H 0 (σ.y + 1) (σ.pl + 2) σ.pl σ.L else
 if te < σ.pl + 4 then .error (1, te) else move22 W H (σ.x + (aG s (σ.pl + 2)).toNat) (σ.y + (aG s (σ.pl + 3)).toNat) (σ.pl + 4) σ.pl σ.L
def rle22 (s : ByteArray) (tb : List Value) (M W H : Nat) (d : Int) (te : Nat) : Nat → S22 → E22 (List Value)
 | 0, σ => .error (1, te)
 | f + 1, σ => if te < σ.pl + 2 then .error (1, te) else
   if aG s σ.pl = 0 ∧ aG s (σ.pl + 1) = 1 then .ok σ.L else
   match step22 s tb M W H d te σ with
   | .error e => .error e
   | .ok τ => rle22 s tb M W H d te f τ
def Good22 (W H te : Nat) (σ : S22) : Prop := σ.x ≤ W ∧ σ.y ≤ H ∧ σ.pl ≤ te ∧ σ.L.length = 4 * (W * H) ∧ ∀ u ∈ σ.L, u.oneCell' = true
theorem place_in {W H x y n : Nat} (hy : y < H) (hx : x + n ≤ W) : (H - 1 - y) * W + x + n ≤ W * H := by
 have h1 : (H - 1 - y + 1) * W ≤ H * W := Nat.mul_le_mul_right W (by omega)
 rw [Nat.add_mul, Nat.one_mul] at h1
 rw [Nat.mul_comm W H]; omega
theorem run22_good {s : ByteArray} {tb : List Value} {M W H : Nat} {d : Int} {te : Nat} {σ τ : S22} {n : Nat} (hT : tb.length = 4 * M) (hT2 : ∀ u ∈ tb, u.oneCell' = true) (h : Good22 W H te σ) (hp : σ.pl + 2 ≤ te) (hr : run22 s tb M W H d σ n = .ok τ) : Good22 W H te τ ∧ σ.pl < τ.pl := by
 unfold run22 at hr
 by_cases h1 : H ≤ σ.y ∨ W < σ.x + n
 · rw [if_pos h1] at hr; cases hr
 rw [if_neg h1] at hr
 cases hq : runP tb M (aG s (σ.pl + 1)) d σ.pl n with
 | error e => rw [hq] at hr; cases hr
 | ok p =>
   rw [hq] at hr; injection hr with hr
   have hl := runP_len _ _ _ _ _ hT _ p hq
   have ha := runP_all _ _ _ _ _ hT2 _ p hq
   obtain ⟨h2, h3, h4, h5, h6⟩ := h
   have h7 := place_in (W := W) (H := H) (x := σ.x) (y := σ.y) (n := n) (by omega) (by omega)
   rw [← hr]
   refine ⟨⟨?_, h3, hp, ?_, putC_all h6 ha⟩, by show σ.pl < σ.pl + 2; omega⟩
   · show σ.x + n ≤ W; omega
   · show (putC _ _ _).length = _; rw [putC_len _ _ _ (by rw [hl, h5]; omega)]; exact h5
theorem plain22_good {s : ByteArray} {tb : List Value} {M W H : Nat} {d : Int} {te : Nat} {σ τ : S22} {n : Nat} (hT : tb.length = 4 * M) (hT2 : ∀ u ∈ tb, u.oneCell' = true) (h : Good22 W H te σ) (hr : plain22 s tb M W H d te σ n = .ok τ) : Good22 W H te τ ∧ σ.pl < τ.pl := by
 unfold plain22 at hr
 by_cases h1 : H ≤ σ.y ∨ W < σ.x + n
 · rw [if_pos h1] at hr; cases hr
 rw [if_neg h1] at hr
 cases hq : ad s tb M d σ.pl te n with
 | error e => rw [hq] at hr; cases hr
 | ok p =>
   rw [hq] at hr
   by_cases hz : te < σ.pl + 2 + sizeP d n + sizeP d n % 2
   · simp only [if_pos hz] at hr; cases hr
   simp only [if_neg hz] at hr
   injection hr with hr
   have hl := plainP_len _ _ _ _ _ _ hT _ p hq
   have ha := plainP_all _ _ _ _ _ _ hT2 _ p hq
   obtain ⟨h2, h3, h4, h5, h6⟩ := h
   have h7 := place_in (W := W) (H := H) (x := σ.x) (y := σ.y) (n := n) (by omega) (by omega)
   rw [← hr]
   refine ⟨⟨?_, h3, ?_, ?_, putC_all h6 ha⟩, ?_⟩
   · show σ.x + n ≤ W; omega
   · show σ.pl + 2 + sizeP d n + sizeP d n % 2 ≤ te; omega
   · show (putC _ _ _).length = _; rw [putC_len _ _ _ (by rw [hl, h5]; omega)]; exact h5
   · show σ.pl < σ.pl + 2 + sizeP d n + sizeP d n % 2; omega
theorem step22_good {s : ByteArray} {tb : List Value} {M W H : Nat} {d : Int} {te : Nat} {σ τ : S22} (hT : tb.length = 4 * M) (hT2 : ∀ u ∈ tb, u.oneCell' = true) (h : Good22 W H te σ) (hp : σ.pl + 2 ≤ te) (hr : step22 s tb M W H d te σ = .ok τ) : Good22 W H te τ ∧ σ.pl < τ.pl := by
 unfold step22 at hr
 by_cases h1 : 0 < aG s σ.pl
 · rw [if_pos h1] at hr; exact run22_good hT hT2 h hp hr
 rw [if_neg h1] at hr
 by_cases h2 : 2 < aG s (σ.pl + 1)
 · rw [if_pos h2] at hr; exact plain22_good hT hT2 h hr
 rw [if_neg h2] at hr
 have mv : ∀ x y pl, pl ≤ te → σ.pl < pl → move22 W H x y pl σ.pl σ.L = .ok τ → Good22 W H te τ ∧ σ.pl < τ.pl := by
  intro x y pl h3 h4 hm
  unfold move22 at hm
  by_cases h5 : W < x ∨ H < y
  · rw [if_pos h5] at hm; cases hm
  rw [if_neg h5] at hm
  injection hm with hm
  rw [← hm]
  exact ⟨⟨by show x ≤ W; omega, by show y ≤ H; omega, h3, h.2.2.2.1, h.2.2.2.2⟩, h4⟩
 by_cases h3 : aG s (σ.pl + 1) = 0
 · rw [if_pos h3] at hr; exact mv _ _ _ hp (by omega) hr
 rw [if_neg h3] at hr
 by_cases h4 : te < σ.pl + 4
 · rw [if_pos h4] at hr; cases hr
 rw [if_neg h4] at hr
 exact mv _ _ _ (by omega) (by omega) hr
def ent21 (v : Int) (dp x : Nat) : Int := v / 2 ^ (8 - dp - x * dp % 8) % 2 ^ dp
def wsz (dp : Nat) : Nat := if 8 < dp then dp / 8 else 1
def colR (v r g b q : Int) : List Value := [J U (chR v r 0), J U (chR v g 0), J U (chR v b 0), J U (chR v q 255)]
structure H21 where
 W : Nat
 H : Nat
 top : Bool
 dp : Nat
 r : Int
 g : Int
 b : Int
 q : Int
def px21 (h : H21) (s : ByteArray) (tb : List Value) (M p x : Nat) : E22 (List Value) :=
 if h.dp ≤ 8 then (if (ent21 (aG s p) h.dp x).toNat < M then .ok (pxC tb (ent21 (aG s p) h.dp x).toNat) else .error (2, p))
 else if h.dp = 24 then .ok [J U (aG s (p + 2)), J U (aG s (p + 1)), J U (aG s p), J U 255]
 else .ok (colR (aC s p (h.dp / 8)) h.r h.g h.b h.q)
def yOf (h : H21) (k : Nat) : Nat := if h.top = true then k else h.H - 1 - k
def bindE (R : E22 (List Value)) (f : List Value → E22 (List Value)) : E22 (List Value) := match R with
 | .error e => .error e
 | .ok L => f L
def row21 (h : H21) (s : ByteArray) (tb : List Value) (M te fr y : Nat) : Nat → Nat → List Value → E22 (List Value)
 | 0, x, L => .ok L
 | c + 1, x, L => if te < fr + x * h.dp / 8 + wsz h.dp then .error (1, te) else bindE (px21 h s tb M (fr + x * h.dp / 8) x) fun cs => row21 h s tb M te fr y c (x + 1) (putC L (4 * (y * h.W + x)) cs)
def rows21 (h : H21) (s : ByteArray) (tb : List Value) (M te at_ : Nat) : Nat → Nat → List Value → E22 (List Value)
 | 0, k, L => .ok L
 | m + 1, k, L => bindE (row21 h s tb M te (at_ + k * aM h.W h.dp) (yOf h k) h.W 0 L) fun L' => if te < at_ + k * aM h.W h.dp + aM h.W h.dp then .error (1, te) else rows21 h s tb M te at_ m (k + 1) L'
theorem ent21_bd (v : Int) (dp x : Nat) (hv : 0 ≤ v) : 0 ≤ ent21 v dp x ∧ ent21 v dp x < 2 ^ dp := by
 have hp : (0 : Int) < 2 ^ dp := Int.pow_pos (by decide)
 unfold ent21
 exact ⟨Int.emod_nonneg _ (by omega), Int.emod_lt_of_pos _ hp⟩
end Go.Proofs.YtfchnibjjokmbaaGreat

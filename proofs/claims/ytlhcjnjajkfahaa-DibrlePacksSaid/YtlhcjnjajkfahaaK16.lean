/- The law DibrlePacks, walked. -/
import Derived.Test.YtlhcjnjajkfahaaK13
import Derived.Test.YtlhcjnjajkfahaaK14
import Derived.Test.YtlhcjnjajkfahaaK15
namespace Go.Proofs.Ytlhcjnjajkfahaa
open Go.RowKit
set_option linter.unusedVariables false
set_option linter.unusedSimpArgs false
set_option maxRecDepth 100000 in
set_option maxHeartbeats 4000000 in
theorem packs22_long (a : Option Addr) (n cap : Nat) (wd d : Int) (w : World) (hn : 800 < n) (hm : n ≤ maxLen) : Calls Try.prog 3 #[.slice a n cap, .int .i64 wd, .int .i64 d] w (Yes22 w) := by
  unfold maxLen at hm
  go_enter Try.func3, Try.ntmps3
  go_wp2_with (go_at_call 11; (with_reducible refine (awake22 _).mono ?_); rintro e w1 ⟨rfl, hb1⟩)
  go_ret
  exact ⟨rfl, hb1⟩
set_option maxRecDepth 100000 in
set_option maxHeartbeats 4000000 in
theorem packs22_arg (a : Option Addr) (n cap : Nat) (wd d : Int) (w : World) (hn : n ≤ 800) (h : rleArg n wd d) : Calls Try.prog 3 #[.slice a n cap, .int .i64 wd, .int .i64 d] w (Yes22 w) := by
  have HP := Lib.hid (fun w0 => (epack_arg a n cap wd d w0 (by omega) h).mono (R' := fun e w' => e = .returned (.tuple #[.string ByteArray.empty, .int .i64 1]) ∧ Below w0.heap.size w0 w') fun e w' hh => hh)
  by_cases h1 : wd < 1
  · have D1 : decide (wd < 1) = true := by rw [decide_eq_true_iff]; exact h1
    clear h h1
    go_enter Try.func3, Try.ntmps3
    go_wp2_with (first
      | ((with_reducible refine skip_g rfl ?_ ?_); rfl; intro _)
      | (go_at_call 12; (with_reducible refine (HP.out _).mono ?_); rintro e w1 ⟨rfl, hb1⟩)
      | (go_at_call 11; (with_reducible refine (awake22 _).mono ?_); rintro e w3 ⟨rfl, hb3⟩))
    go_ret
    exact ⟨rfl, bthen hb3 hb1 hb1.size⟩
  have D1 : decide (wd < 1) = false := by rw [decide_eq_false_iff_not]; exact h1
  by_cases h2 : wd > 16384
  · have D2 : decide (wd > 16384) = true := by rw [decide_eq_true_iff]; exact h2
    clear h h1 h2
    go_enter Try.func3, Try.ntmps3
    go_wp2_with (first
      | ((with_reducible refine skip_g rfl ?_ ?_); rfl; intro _)
      | (go_at_call 12; (with_reducible refine (HP.out _).mono ?_); rintro e w1 ⟨rfl, hb1⟩)
      | (go_at_call 11; (with_reducible refine (awake22 _).mono ?_); rintro e w3 ⟨rfl, hb3⟩))
    go_ret
    exact ⟨rfl, bthen hb3 hb1 hb1.size⟩
  have D2 : decide (wd > 16384) = false := by rw [decide_eq_false_iff_not]; exact h2
  obtain ⟨W, rfl⟩ := Int.eq_ofNat_of_zero_le (show 0 ≤ wd by omega)
  by_cases h3 : d ≠ 4 ∧ d ≠ 8
  · have e4 : (d != 4) = true := by rw [bne_iff_ne]; exact h3.1
    have e8 : (d != 8) = true := by rw [bne_iff_ne]; exact h3.2
    clear h h1 h2 h3
    go_enter Try.func3, Try.ntmps3
    go_wp2_with (first
      | ((with_reducible refine skip_g rfl ?_ ?_); rfl; intro _)
      | (go_at_call 12; (with_reducible refine (HP.out _).mono ?_); rintro e w1 ⟨rfl, hb1⟩)
      | (go_at_call 11; (with_reducible refine (awake22 _).mono ?_); rintro e w3 ⟨rfl, hb3⟩))
    go_ret
    exact ⟨rfl, bthen hb3 hb1 hb1.size⟩
  have hd : d = 4 ∨ d = 8 := by omega
  by_cases h4 : n = 0
  · subst h4
    clear h h1 h2 h3
    rcases hd with rfl | rfl
    all_goals
      go_enter Try.func3, Try.ntmps3
      go_wp2_with (first
        | ((with_reducible refine skip_g rfl ?_ ?_); rfl; intro _)
        | (go_at_call 12; (with_reducible refine (HP.out _).mono ?_); rintro e w1 ⟨rfl, hb1⟩)
        | (go_at_call 11; (with_reducible refine (awake22 _).mono ?_); rintro e w3 ⟨rfl, hb3⟩))
      go_ret
      exact ⟨rfl, bthen hb3 hb1 hb1.size⟩
  have hm : n % W ≠ 0 := by
    unfold rleArg at h
    rcases h with h | h | h | h | h
    · omega
    · omega
    · exact absurd h h3
    · exact absurd h h4
    · simpa using h
  have D5 : ((n : Int) == 0) = false := by rw [beq_eq_false_iff_ne]; omega
  have hW0 : ¬ W = 0 := by omega
  have hm1 : n % W < W := Nat.mod_lt _ (by omega)
  have hmI : ((n : Int) % (W : Int) != 0) = true := by
    have e : ((n : Int) % (W : Int)) = ((n % W : Nat) : Int) := by rw [Int.natCast_emod]
    rw [e, bne_iff_ne]; omega
  obtain ⟨r, hr⟩ : ∃ r : Int, (n : Int) % (W : Int) = r := ⟨_, rfl⟩
  rw [hr] at hmI
  clear h h1 h2 h3 h4 hm hm1
  rcases hd with rfl | rfl
  all_goals
    go_enter Try.func3, Try.ntmps3
    go_wp2_with (first
      | ((with_reducible refine skip_g rfl ?_ ?_); rfl; intro _)
      | (go_at_call 12; (with_reducible refine (HP.out _).mono ?_); rintro e w1 ⟨rfl, hb1⟩)
      | (go_at_call 11; (with_reducible refine (awake22 _).mono ?_); rintro e w3 ⟨rfl, hb3⟩))
    go_ret
    exact ⟨rfl, bthen hb3 hb1 hb1.size⟩

theorem first_bad22 (l : List Int) (P : Int) (h : ¬ ∀ i, i < l.length → 0 ≤ l.getD i 0 ∧ l.getD i 0 < P) : ∃ k, k < l.length ∧ ¬ (0 ≤ l.getD k 0 ∧ l.getD k 0 < P) ∧ ∀ j, j < k → 0 ≤ l.getD j 0 ∧ l.getD j 0 < P := by
  have key : ∀ n, (∀ j, j < n → j < l.length → 0 ≤ l.getD j 0 ∧ l.getD j 0 < P) ∨ ∃ k, k < l.length ∧ ¬ (0 ≤ l.getD k 0 ∧ l.getD k 0 < P) ∧ ∀ j, j < k → 0 ≤ l.getD j 0 ∧ l.getD j 0 < P := by
    intro n
    induction n with
    | zero => exact Or.inl (fun j hj => by omega)
    | succ n ih =>
      rcases ih with ih | ih
      · by_cases hn : n < l.length
        · by_cases hg : 0 ≤ l.getD n 0 ∧ l.getD n 0 < P
          · refine Or.inl (fun j hj hl => ?_)
            by_cases hj2 : j < n
            · exact ih j hj2 hl
            · obtain rfl : j = n := by omega
              exact hg
          · exact Or.inr ⟨n, hn, hg, fun j hj => ih j hj (by omega)⟩
        · exact Or.inl (fun j hj hl => ih j (by omega) hl)
      · exact Or.inr ih
  rcases key l.length with h1 | h1
  · exact absurd (fun i hi => h1 i hi hi) h
  · exact h1
theorem encA_len (l : List Int) (W : Nat) (d : Int) (i : Nat) : (encA l W d i).length ≤ 4 * (l.length - i) + 2 := by
  have key : ∀ k i, l.length - i ≤ k → (encA l W d i).length ≤ 4 * (l.length - i) + 2 := by
    intro k
    induction k with
    | zero => intro i h; rw [encA_end _ _ _ _ (by omega)]; simp
    | succ k ih =>
      intro i h
      by_cases hi : i < l.length
      · have h1 := ih (i + nRun l i (rowEnd W i)) (by have := nRun_pos l i (rowEnd W i); omega)
        have h2 := nRun_pos l i (rowEnd W i)
        rw [encA_step l W d i hi, List.length_append, List.length_append]
        have h3 : ((if i + nRun l i (rowEnd W i) = rowEnd W i then [0, 0] else []) : List Int).length ≤ 2 := by split <;> simp
        have h4 : ([(nRun l i (rowEnd W i) : Int), pairV d (l.getD i 0)] : List Int).length = 2 := rfl
        omega
      · rw [encA_end _ _ _ _ (by omega)]; simp
  exact key _ i (Nat.le_refl _)
theorem encA_bytes (l : List Int) (W : Nat) {R : Nat} (d : Int) (hd : d = 4 ∨ d = 8) (hW : 1 ≤ W) (hR : l.length = R * W) {P : Int} (hg : ∀ i, i < l.length → 0 ≤ l.getD i 0 ∧ l.getD i 0 < P) (i j : Nat) (hj : j < (encA l W d i).length) (hP : P = 2 ^ d.toNat := by decide) : 0 ≤ (encA l W d i).getD j 0 ∧ (encA l W d i).getD j 0 < 256 := by
  have key : ∀ k i, l.length - i ≤ k → ∀ x ∈ encA l W d i, 0 ≤ x ∧ x < 256 := by
    intro k
    induction k with
    | zero => intro i h x hx; rw [encA_end _ _ _ _ (by omega)] at hx; simp at hx; omega
    | succ k ih =>
      intro i h x hx
      by_cases hi : i < l.length
      · have h2 := nRun_pos l i (rowEnd W i)
        have h3 := nRun_le l i (rowEnd W i) (rowEnd_bd W i hW).1 (rowEnd_in W R i l.length hR hi hW)
        rw [encA_step l W d i hi] at hx
        rcases List.mem_append.1 hx with hx | hx
        · have hgi := hg i hi
          simp at hx
          rcases hx with rfl | rfl
          · omega
          · subst hP
            rcases hd with rfl | rfl
            · have g2 : l.getD i 0 < 16 := hgi.2
              have g1 := hgi.1
              show 0 ≤ 17 * l.getD i 0 ∧ 17 * l.getD i 0 < 256
              omega
            · exact ⟨hgi.1, hgi.2⟩
        · rcases List.mem_append.1 hx with hx | hx
          · split at hx
            · simp at hx; omega
            · cases hx
          · exact ih _ (by omega) x hx
      · rw [encA_end _ _ _ _ (by omega)] at hx; simp at hx; omega
  refine key _ i (Nat.le_refl _) _ ?_
  rw [List.getD_eq_getElem?_getD, List.getElem?_eq_getElem hj]
  exact List.getElem_mem hj
/-- What is known of right arguments. -/
structure Arg22 (l : List Int) (B o cap W R : Nat) (d : Int) (w : World) : Prop where
  hB : B < w.heap.size
  hn : l.length ≤ 800
  hcap : l.length ≤ cap
  hcm : cap ≤ maxLen
  hW : 1 ≤ W
  hW2 : W ≤ 16384
  hR : l.length = R * W
  hR1 : 1 ≤ R
  hd : d = 4 ∨ d = 8
  hc : ∀ i, i < l.length → w.cell? ⟨B, o + i, none⟩ = some (.int .i64 (l.getD i 0))
theorem Arg22.notarg {l : List Int} {B o cap W R : Nat} {d : Int} {w : World} (h : Arg22 l B o cap W R d w) : ¬ ((W : Int) < 1 ∨ 16384 < (W : Int) ∨ (d ≠ 4 ∧ d ≠ 8) ∨ l.length = 0 ∨ l.length % (W : Int).toNat ≠ 0) := by
  have h1 := h.hW
  have h2 := h.hW2
  have h3 := h.hd
  have h4 : 1 ≤ l.length := by rw [h.hR]; exact Nat.mul_le_mul h.hR1 h1
  have h5 : l.length % (W : Int).toNat = 0 := by rw [h.hR, Int.toNat_natCast]; exact Nat.mul_mod_left _ _
  omega
set_option maxRecDepth 100000 in
set_option maxHeartbeats 8000000 in
theorem packs22_bad (l : List Int) (B o cap W R : Nat) (d : Int) (w : World) (h : Arg22 l B o cap W R d w) (hbad : ¬ ∀ i, i < l.length → 0 ≤ l.getD i 0 ∧ l.getD i 0 < 2 ^ d.toNat) : Calls Try.prog 3 #[.slice (some ⟨B, o, none⟩) l.length cap, .int .i64 W, .int .i64 d] w (Yes22 w) := by
  have HP := Lib.hid ((epack_any l B o cap W d w h.hB (by have := h.hn; omega) h.hcap h.hcm h.hc).mono (R' := fun e w' => e = .returned (.tuple #[.string ByteArray.empty, .int .i64 2]) ∧ Below w.heap.size w w') fun e w' hh => by
    unfold rleI at hh
    rw [if_neg h.notarg, if_neg hbad] at hh
    exact hh)
  obtain ⟨k, hk, hkb, hkg⟩ := first_bad22 l _ hbad
  have HC := Lib.hid h.hc
  have hB := h.hB
  have hn := h.hn
  have hW := h.hW
  have hW2 := h.hW2
  have hd := h.hd
  have hR := h.hR
  have hn1 : 1 ≤ l.length := by rw [h.hR]; exact Nat.mul_le_mul h.hR1 hW
  have D5 : ((l.length : Int) == 0) = false := by rw [beq_eq_false_iff_ne]; omega
  have hW0 : ¬ W = 0 := by omega
  have hmI : (l.length : Int) % (W : Int) = 0 := by rw [← Int.natCast_emod, hR, Nat.mul_mod_left]; rfl
  have HRR := Lib.hid hR
  clear hR
  have HKG := Lib.hid hkg
  have HKB := Lib.hid hkb
  clear hbad hkg hkb h
  rcases hd with rfl | rfl
  · have HPW := Lib.hid (fun w0 => (power_any 4 w0 (by decide) (by decide)).mono (R' := fun e w' => e = .returned (.int .i64 16) ∧ w' = w0) fun e w' hh => ⟨hh.1.trans (by rfl), hh.2.symm⟩)
    go_enter Try.func3, Try.ntmps3
    go_wp2_with (first
      | ((with_reducible refine skip_g rfl ?_ ?_); rfl; intro _)
      | (go_at_call 12; (with_reducible refine (HP.out).mono ?_); rintro e w1 ⟨rfl, hb1⟩; obtain ⟨hc1, hf1⟩ := bcell hb1))
    have HB1 := Lib.hid hb1
    go_loop [10, 67] (fun v i => ∃ j : Nat, j ≤ k ∧ i = .int .i64 j) (fun _ i => l.length - (intOf i).toNat)
    case atStart => exact ⟨0, by omega, rfl⟩
    case round =>
      obtain ⟨j, hj, rfl⟩ := hrel
      have hlt : j < l.length := by omega
      have hck := ((bcell HB1.out).1 B (o + j) hB).trans (HC.out j hlt)
      by_cases hjk : j < k
      · have g := HKG.out j hjk
        have g0 := g.1
        have g1 : l.getD j 0 < 16 := g.2
        obtain ⟨x, hx⟩ : ∃ x, l.getD j 0 = x := ⟨_, rfl⟩
        rw [hx] at hck g0 g1
        clear hx g hb1 hc1 hf1
        go_wp2_with (first
          | (go_at_call 13; (with_reducible refine (HPW.out _).mono ?_); rintro e w2 ⟨rfl, rfl⟩)
          | ((with_reducible refine skip_g rfl ?_ ?_); rfl; intro _))
        go_round
        case rel => exact ⟨j + 1, by omega, by go_num⟩
        case measure => simp [intOf]; omega
      · obtain rfl : j = k := by omega
        have hkb : ¬ (0 ≤ l.getD j 0 ∧ l.getD j 0 < 16) := HKB.out
        obtain ⟨x, hx⟩ : ∃ x, l.getD j 0 = x := ⟨_, rfl⟩
        rw [hx] at hck hkb
        clear hx hb1 hc1 hf1
        by_cases hx0 : x < 0
        · clear hkb
          go_wp2_with (first
            | ((with_reducible refine skip_g rfl ?_ ?_); rfl; intro _)
            | (go_at_call 13; (with_reducible refine (HPW.out _).mono ?_); rintro e w2 ⟨rfl, rfl⟩)
            | (go_at_call 11; (with_reducible refine (awake22 _).mono ?_); rintro e w3 ⟨rfl, hb3⟩))
          go_ret
          exact ⟨rfl, bthen hb3 HB1.out HB1.out.size⟩
        · have hx1 : 16 ≤ x := by omega
          clear hkb
          go_wp2_with (first
            | ((with_reducible refine skip_g rfl ?_ ?_); rfl; intro _)
            | (go_at_call 13; (with_reducible refine (HPW.out _).mono ?_); rintro e w2 ⟨rfl, rfl⟩)
            | (go_at_call 11; (with_reducible refine (awake22 _).mono ?_); rintro e w3 ⟨rfl, hb3⟩))
          go_ret
          exact ⟨rfl, bthen hb3 HB1.out HB1.out.size⟩
  · have HPW := Lib.hid (fun w0 => (power_any 8 w0 (by decide) (by decide)).mono (R' := fun e w' => e = .returned (.int .i64 256) ∧ w' = w0) fun e w' hh => ⟨hh.1.trans (by rfl), hh.2.symm⟩)
    go_enter Try.func3, Try.ntmps3
    go_wp2_with (first
      | ((with_reducible refine skip_g rfl ?_ ?_); rfl; intro _)
      | (go_at_call 12; (with_reducible refine (HP.out).mono ?_); rintro e w1 ⟨rfl, hb1⟩; obtain ⟨hc1, hf1⟩ := bcell hb1))
    have HB1 := Lib.hid hb1
    go_loop [10, 67] (fun v i => ∃ j : Nat, j ≤ k ∧ i = .int .i64 j) (fun _ i => l.length - (intOf i).toNat)
    case atStart => exact ⟨0, by omega, rfl⟩
    case round =>
      obtain ⟨j, hj, rfl⟩ := hrel
      have hlt : j < l.length := by omega
      have hck := ((bcell HB1.out).1 B (o + j) hB).trans (HC.out j hlt)
      by_cases hjk : j < k
      · have g := HKG.out j hjk
        have g0 := g.1
        have g1 : l.getD j 0 < 256 := g.2
        obtain ⟨x, hx⟩ : ∃ x, l.getD j 0 = x := ⟨_, rfl⟩
        rw [hx] at hck g0 g1
        clear hx g hb1 hc1 hf1
        go_wp2_with (first
          | (go_at_call 13; (with_reducible refine (HPW.out _).mono ?_); rintro e w2 ⟨rfl, rfl⟩)
          | ((with_reducible refine skip_g rfl ?_ ?_); rfl; intro _))
        go_round
        case rel => exact ⟨j + 1, by omega, by go_num⟩
        case measure => simp [intOf]; omega
      · obtain rfl : j = k := by omega
        have hkb : ¬ (0 ≤ l.getD j 0 ∧ l.getD j 0 < 256) := HKB.out
        obtain ⟨x, hx⟩ : ∃ x, l.getD j 0 = x := ⟨_, rfl⟩
        rw [hx] at hck hkb
        clear hx hb1 hc1 hf1
        by_cases hx0 : x < 0
        · clear hkb
          go_wp2_with (first
            | ((with_reducible refine skip_g rfl ?_ ?_); rfl; intro _)
            | (go_at_call 13; (with_reducible refine (HPW.out _).mono ?_); rintro e w2 ⟨rfl, rfl⟩)
            | (go_at_call 11; (with_reducible refine (awake22 _).mono ?_); rintro e w3 ⟨rfl, hb3⟩))
          go_ret
          exact ⟨rfl, bthen hb3 HB1.out HB1.out.size⟩
        · have hx1 : 256 ≤ x := by omega
          clear hkb
          go_wp2_with (first
            | ((with_reducible refine skip_g rfl ?_ ?_); rfl; intro _)
            | (go_at_call 13; (with_reducible refine (HPW.out _).mono ?_); rintro e w2 ⟨rfl, rfl⟩)
            | (go_at_call 11; (with_reducible refine (awake22 _).mono ?_); rintro e w3 ⟨rfl, hb3⟩))
          go_ret
          exact ⟨rfl, bthen hb3 HB1.out HB1.out.size⟩
set_option maxRecDepth 100000 in
set_option maxHeartbeats 16000000 in
theorem packs22_good4 (l : List Int) (B o cap W R : Nat) (w : World) (h : Arg22 l B o cap W R 4 w) (hgood : ∀ i, i < l.length → 0 ≤ l.getD i 0 ∧ l.getD i 0 < 16) : Calls Try.prog 3 #[.slice (some ⟨B, o, none⟩) l.length cap, .int .i64 W, .int .i64 4] w (Yes22 w) := by
  obtain ⟨S, hS0⟩ : ∃ S, strOf (encA l W 4 0) = S := ⟨_, rfl⟩
  have HSS := Lib.hid hS0
  have HP := Lib.hid ((epack_any l B o cap W 4 w h.hB (by have := h.hn; omega) h.hcap h.hcm h.hc).mono (R' := fun e w' => e = .returned (.tuple #[.string S, .int .i64 0]) ∧ Below w.heap.size w w') fun e w' hh => by
    unfold rleI at hh
    rw [if_neg h.notarg, if_pos (show ∀ i, i < l.length → 0 ≤ l.getD i 0 ∧ l.getD i 0 < 2 ^ (4 : Int).toNat from hgood)] at hh
    rw [← hS0]
    exact hh)
  have HQ := Lib.hid (fun w0 (hb : Below w.heap.size w w0) => (rpack22_go l B o cap W R 4 w0 (Nat.lt_of_lt_of_le h.hB hb.size) (by have := h.hn; omega) h.hW h.hW2 h.hd h.hR hgood (fun i hi => ((bcell hb).1 B (o + i) h.hB).trans (h.hc i hi))).mono (R' := fun e w' => e = .returned (.string S) ∧ Below w0.heap.size w0 w') fun e w' hh => by rw [← hS0]; exact hh)
  have HC := Lib.hid h.hc
  have hB := h.hB
  have hn := h.hn
  have hW := h.hW
  have hW2 := h.hW2
  have hd := h.hd
  have hR := h.hR
  have hn1 : 1 ≤ l.length := by rw [h.hR]; exact Nat.mul_le_mul h.hR1 hW
  have D5 : ((l.length : Int) == 0) = false := by rw [beq_eq_false_iff_ne]; omega
  have hW0 : ¬ W = 0 := by omega
  have hmI : (l.length : Int) % (W : Int) = 0 := by rw [← Int.natCast_emod, hR, Nat.mul_mod_left]; rfl
  have HRR := Lib.hid hR
  clear hR
  have hR1 := h.hR1
  have hRb : R ≤ 800 := Nat.le_trans (Nat.le_mul_of_pos_right R hW) (by rw [← h.hR]; exact hn)
  have eT : Int.tdiv (l.length : Int) (W : Int) = (R : Int) := by
    rw [Int.tdiv_eq_ediv_of_nonneg (by omega), ← Int.natCast_ediv, h.hR, Nat.mul_div_cancel _ hW]
  have HG := Lib.hid hgood
  have HPW := Lib.hid (fun w0 => (power_any 4 w0 (by decide) (by decide)).mono (R' := fun e w' => e = .returned (.int .i64 16) ∧ w' = w0) fun e w' hh => ⟨hh.1.trans (by rfl), hh.2.symm⟩)
  clear hgood h hS0
  go_enter Try.func3, Try.ntmps3
  go_wp2_with (first
    | ((with_reducible refine skip_g rfl ?_ ?_); rfl; intro _)
    | (go_at_call 12; (with_reducible refine (HP.out).mono ?_); rintro e w1 ⟨rfl, hb1⟩; obtain ⟨hc1, hf1⟩ := bcell hb1))
  have BL := Lib.hid hb1
  clear hc1 hf1
  go_loop [10, 67] (fun v i => ∃ j : Nat, j ≤ l.length ∧ i = .int .i64 j) (fun _ i => l.length - (intOf i).toNat)
  case atStart => exact ⟨0, by omega, rfl⟩
  case round =>
    obtain ⟨j, hj, rfl⟩ := hrel
    by_cases hlt : j < l.length
    · have hck := ((bcell BL.out).1 B (o + j) hB).trans (HC.out j hlt)
      obtain ⟨g0, g1⟩ := HG.out j hlt
      obtain ⟨x, hx⟩ : ∃ x, l.getD j 0 = x := ⟨_, rfl⟩
      rw [hx] at hck g0 g1
      clear hx hb1
      go_wp2_with (first
        | (go_at_call 13; (with_reducible refine (HPW.out _).mono ?_); rintro e w2 ⟨rfl, rfl⟩)
        | ((with_reducible refine skip_g rfl ?_ ?_); rfl; intro _))
      go_round
      case rel => exact ⟨j + 1, by omega, by go_num⟩
      case measure => simp [intOf]; omega
    obtain rfl : j = l.length := by omega
    clear hlt hj hb1
    by_cases hbig : 40 < W ∨ 40 < R
    · as_aux_lemma =>
        rcases hbig with hbig | hbig
        · go_wp2_with (first
            | ((with_reducible refine skip_g rfl ?_ ?_); rfl; intro _)
            | ((go_at_call 14; (with_reducible refine (HQ.out _ BL.out).mono ?_); rintro e w2 ⟨rfl, hb⟩); have BL := Lib.hid (bthen hb BL.out BL.out.size); clear hb)
            | ((go_at_call 11; (with_reducible refine (awake22 _).mono ?_); rintro e w3 ⟨rfl, hb⟩); have BL := Lib.hid (bthen hb BL.out BL.out.size); clear hb))
          go_ret
          exact ⟨rfl, BL.out⟩
        · by_cases hbW : 40 < W
          · go_wp2_with (first
              | ((with_reducible refine skip_g rfl ?_ ?_); rfl; intro _)
              | ((go_at_call 14; (with_reducible refine (HQ.out _ BL.out).mono ?_); rintro e w2 ⟨rfl, hb⟩); have BL := Lib.hid (bthen hb BL.out BL.out.size); clear hb)
              | ((go_at_call 11; (with_reducible refine (awake22 _).mono ?_); rintro e w3 ⟨rfl, hb⟩); have BL := Lib.hid (bthen hb BL.out BL.out.size); clear hb))
            go_ret
            exact ⟨rfl, BL.out⟩
          · go_wp2_with (first
              | ((with_reducible refine skip_g rfl ?_ ?_); rfl; intro _)
              | ((go_at_call 14; (with_reducible refine (HQ.out _ BL.out).mono ?_); rintro e w2 ⟨rfl, hb⟩); have BL := Lib.hid (bthen hb BL.out BL.out.size); clear hb)
              | ((go_at_call 11; (with_reducible refine (awake22 _).mono ?_); rintro e w3 ⟨rfl, hb⟩); have BL := Lib.hid (bthen hb BL.out BL.out.size); clear hb))
            go_ret
            exact ⟨rfl, BL.out⟩
    have hW40 : W ≤ 40 := by omega
    have hR40 : R ≤ 40 := by omega
    clear hbig hW2
    obtain ⟨HB, hHB⟩ : ∃ H, strOf (head4 W R ++ tabI 16) = H := ⟨_, rfl⟩
    obtain ⟨F, hF⟩ : ∃ F, HB ++ S = F := ⟨_, rfl⟩
    have hF2 : F = strOf (head4 W R ++ tabI 16 ++ encA l W 4 0) := by rw [← hF, ← hHB, ← HSS.out, strOf_app]
    have hFz : F.size = 40 + 64 + (encA l W 4 0).length := by rw [hF2, strOf_size3, List.length_append, List.length_append, tabI_len]; rfl
    have henc := encA_len l W 4 0
    have hFb : F.size ≤ 20000 := by omega
    have hF40 : 40 ≤ F.size := by omega
    have hF41 : ¬ F.size < 40 + 64 := by omega
    have HHB := Lib.hid (fun w0 => (lhead4_any W R w0 hW40 hR40).mono (R' := fun e w' => e = .returned (.string HB) ∧ Below w0.heap.size w0 w') fun e w' hh => by rw [← hHB]; exact hh)
    have HRH := Lib.hid (fun w0 => (show Calls Try.prog 16 #[.string F, .int .i64 0, .int .i64 F.size] w0 (RA w0 [.int .i64 40, .int .i64 W, .int .i64 R, .bool false, .int .i64 4, .int .i64 2, .int .i64 16, .int .i64 0, .int .i64 0, .int .i64 0, .int .i64 0, .int .i64 0, .int .i64 40, .int .i64 0, .int .i64 0]) from (rread20_any F 0 w0 (Nat.zero_le _) (by decide) (by omega)).mono fun e w' hh => by
      rw [hF2, List.append_assoc, file4_head W R _ hW hW40 hR1 hR40] at hh; exact hh))
    have hcc : HB.size + S.size ≤ 20000 := by rw [← ByteArray.size_append, hF]; exact hFb
    have HRT := Lib.hid (fun w0 => (show Calls Try.prog 17 #[.string F, .agg (List.toArray [.int .i64 40, .int .i64 W, .int .i64 R, .bool false, .int .i64 4, .int .i64 2, .int .i64 16, .int .i64 0, .int .i64 0, .int .i64 0, .int .i64 0, .int .i64 0, .int .i64 40, .int .i64 0, .int .i64 0]), .int .i64 F.size] w0 (fun e w' => ∃ gt ct, e = .returned (.agg (List.toArray [.int .i64 104, .slice (some ⟨gt, 0, none⟩) 16 ct, .int .i64 0, .int .i64 0])) ∧ w'.ownsRow w0.heap.size 41 4 (.slice (some ⟨gt, 0, none⟩) 16 ct) 16 (colT 16) ∧ Below w0.heap.size w0 w') from (table21_any F 40 W R false 4 2 16 0 0 0 0 0 40 4 64 w0 rfl (by decide) (by decide) hF40 (by omega)).mono fun e w' hh => by
      unfold Table21Post at hh
      rw [if_neg hF41, if_pos (by decide), hF2, colsL_tab _ _ 16 rfl (by decide) 16 (Nat.le_refl _)] at hh
      obtain ⟨⟨v, he, hv⟩, hb⟩ := hh
      obtain ⟨gt, ct, rfl, _, _⟩ := owns_form4 hv (by decide)
      exact ⟨gt, ct, he, hv, hb⟩))
    obtain ⟨L', hrl, himg⟩ := rle_back l W R 16 F.size 4 F hW HRR.out (by omega) HG.out l.length 0 ⟨0, 0, 40 + 64, zC l.length⟩ (F.size + 1) (by omega) (by omega) (by simp) (by simp) ⟨by rw [zC_len, HRR.out, Nat.mul_comm R W], fun j hj => by omega⟩ (fun j hj => by
      show byN F (40 + 64 + j) = _
      rw [hF2]
      refine byN_strOf3 _ _ _ ?_ ?_ ?_
      · rw [List.getElem?_append_right (by rw [List.length_append, tabI_len]; show 40 + _ ≤ _; omega), List.length_append, tabI_len, show (head4 W R).length = 40 from rfl, show 40 + 64 + j - (40 + 4 * 16) = j by omega, List.getD_eq_getElem?_getD, List.getElem?_eq_getElem hj]; rfl
      · exact (encA_bytes l W 4 (by omega) hW HRR.out HG.out 0 j hj).1
      · exact (encA_bytes l W 4 (by omega) hW HRR.out HG.out 0 j hj).2) hFz (by show F.size < 40 + 64 + _; omega)
    have HRR2 := Lib.hid (fun w0 gt ct bt (ht : w0.ownsRow bt 41 4 (.slice (some ⟨gt, 0, none⟩) 16 ct) 16 (colT 16)) => (show Calls Try.prog 18 #[.string F, .int .i64 104, .int .i64 F.size, .agg (List.toArray [.int .i64 40, .int .i64 W, .int .i64 R, .bool false, .int .i64 4, .int .i64 2, .int .i64 16, .int .i64 0, .int .i64 0, .int .i64 0, .int .i64 0, .int .i64 0, .int .i64 40, .int .i64 0, .int .i64 0]), .slice (some ⟨gt, 0, none⟩) 16 ct] w0 (fun e w' => ∃ gm cm, e = .returned (.agg (List.toArray [.int .i64 W, .int .i64 R, .slice (some ⟨gm, 0, none⟩) l.length cm, .int .i64 0, .int .i64 0])) ∧ w'.ownsRow w0.heap.size 41 4 (.slice (some ⟨gm, 0, none⟩) l.length cm) l.length L' ∧ Below w0.heap.size w0 w') from (read22_any 40 W R false 4 2 16 0 0 0 0 0 40 F (40 + 64) F.size l.length 16 gt ct bt (F.size + 1) (colT 16) w0 (by rw [HRR.out, Nat.mul_comm]) hW40 hR40 hW hR1 (by decide) (by omega) (Nat.le_refl _) (by omega) (by omega) (by omega) ht (colT_all 16)).mono fun e w' hh => by
      rw [hrl] at hh; exact hh))
    have HIM := Lib.hid himg
    clear hF2 hFz henc hrl himg hHB
    go_upto_region 18 with (first
      | ((with_reducible refine skip_g rfl ?_ ?_); rfl; intro _)
      | ((go_at_call 14; (with_reducible refine (HQ.out _ BL.out).mono ?_); rintro e w2 ⟨rfl, hb⟩); have BL := Lib.hid (bthen hb BL.out BL.out.size); clear hb)
      | ((go_at_call 15; (with_reducible refine (HHB.out _).mono ?_); rintro e w5 ⟨rfl, hb⟩); have BL := Lib.hid (bthen hb BL.out BL.out.size); clear hb))
    go_upto_region 19 with ((go_at_call 16; (with_reducible refine (HRH.out _).mono ?_); rintro e w6 ⟨rfl, hb⟩); have BL := Lib.hid (bthen hb BL.out BL.out.size); clear hb)
    have O13 := Lib.hid (obj1_new w6 (List.toArray [.int .i64 40, .int .i64 W, .int .i64 R, .bool false, .int .i64 4, .int .i64 2, .int .i64 16, .int .i64 0, .int .i64 0, .int .i64 0, .int .i64 0, .int .i64 0, .int .i64 40, .int .i64 0, .int .i64 0]) 31)
    have BL := Lib.hid (BL.out.alloc BL.out.size (.cells (List.toArray [.int .i64 40, .int .i64 W, .int .i64 R, .bool false, .int .i64 4, .int .i64 2, .int .i64 16, .int .i64 0, .int .i64 0, .int .i64 0, .int .i64 0, .int .i64 0, .int .i64 40, .int .i64 0, .int .i64 0]) 31))
    obtain ⟨p13, hp13⟩ : ∃ p, w6.heap.size = p := ⟨_, rfl⟩
    rw [hp13] at O13 ⊢
    generalize World.alloc w6 _ = w7 at O13 BL ⊢
    clear hp13
    go_upto_region 20 with (first
      | (refine load_u (by kernel_rfl) 31 15 _ rfl p13 [.int .i64 40, .int .i64 W, .int .i64 R, .bool false, .int .i64 4, .int .i64 2, .int .i64 16, .int .i64 0, .int .i64 0, .int .i64 0, .int .i64 0, .int .i64 0, .int .i64 40, .int .i64 0, .int .i64 0] rfl rfl O13.out Try.underlying31 rfl (by kernel_rfl) ?_; intro _)
      | ((go_at_call 17; (with_reducible refine (HRT.out _).mono ?_); rintro e w8 ⟨gt, ct, rfl, hown, hb⟩); have BL := Lib.hid (bthen hb BL.out BL.out.size); have O13 := Lib.hid (O13.out.below hb O13.out.lt); have OT := Lib.hid hown; have hgt := owns_lt hown; clear hb hown))
    have O14 := Lib.hid (obj1_new w8 (List.toArray [.int .i64 104, .slice (some ⟨gt, 0, none⟩) 16 ct, .int .i64 0, .int .i64 0]) 35)
    have BL := Lib.hid (BL.out.alloc BL.out.size (.cells (List.toArray [.int .i64 104, .slice (some ⟨gt, 0, none⟩) 16 ct, .int .i64 0, .int .i64 0]) 35))
    have O13 := Lib.hid (O13.out.alloc (.cells (List.toArray [.int .i64 104, .slice (some ⟨gt, 0, none⟩) 16 ct, .int .i64 0, .int .i64 0]) 35))
    have OT := Lib.hid (OT.out.alloc (.cells (List.toArray [.int .i64 104, .slice (some ⟨gt, 0, none⟩) 16 ct, .int .i64 0, .int .i64 0]) 35))
    obtain ⟨p14, hp14⟩ : ∃ p, w8.heap.size = p := ⟨_, rfl⟩
    rw [hp14] at O14 ⊢
    generalize World.alloc w8 _ = w9 at O13 O14 OT BL ⊢
    clear hp14
    have c140 := (O14.out.cell 0).trans (show _ = some (.int .i64 104) from rfl)
    have c141 := (O14.out.cell 1).trans (show _ = some (.slice (some ⟨gt, 0, none⟩) 16 ct) from rfl)
    go_upto_region 21 with (first
      | (refine load_u (by kernel_rfl) 31 15 _ rfl p13 [.int .i64 40, .int .i64 W, .int .i64 R, .bool false, .int .i64 4, .int .i64 2, .int .i64 16, .int .i64 0, .int .i64 0, .int .i64 0, .int .i64 0, .int .i64 0, .int .i64 40, .int .i64 0, .int .i64 0] rfl rfl O13.out Try.underlying31 rfl (by kernel_rfl) ?_; intro _)
      | ((go_at_call 18; (with_reducible refine (HRR2.out _ _ _ _ OT.out).mono ?_); rintro e w10 ⟨gm, cm, rfl, hown, hb⟩); have BL := Lib.hid (bthen hb BL.out BL.out.size); have OM := Lib.hid hown; have hgm := owns_lt hown; clear hb hown))
    have O15 := Lib.hid (obj1_new w10 (List.toArray [.int .i64 W, .int .i64 R, .slice (some ⟨gm, 0, none⟩) l.length cm, .int .i64 0, .int .i64 0]) 38)
    have BL := Lib.hid (BL.out.alloc BL.out.size (.cells (List.toArray [.int .i64 W, .int .i64 R, .slice (some ⟨gm, 0, none⟩) l.length cm, .int .i64 0, .int .i64 0]) 38))
    have OM := Lib.hid (OM.out.alloc (.cells (List.toArray [.int .i64 W, .int .i64 R, .slice (some ⟨gm, 0, none⟩) l.length cm, .int .i64 0, .int .i64 0]) 38))
    obtain ⟨p15, hp15⟩ : ∃ p, w10.heap.size = p := ⟨_, rfl⟩
    rw [hp15] at O15 ⊢
    generalize World.alloc w10 _ = w11 at O15 OM BL ⊢
    clear hp15 c140 c141 hF hcc
    have c153 := (O15.out.cell 3).trans (show _ = some (.int .i64 0) from rfl)
    have c152 := (O15.out.cell 2).trans (show _ = some (.slice (some ⟨gm, 0, none⟩) l.length cm) from rfl)
    have lz15 := O15.out.lt
    have lzm := (owns_lt OM.out).2
    have lwb := BL.out.size
    go_wp2_with ((with_reducible refine skip_g rfl ?_ ?_); rfl; intro _)
    clear c153 c152
    go_loopw [147] (fun c wr => ∃ i : Nat, i ≤ l.length ∧ c = .int .i64 i ∧ Below w11.heap.size w11 wr) (fun c _ => l.length - (intOf c).toNat)
    case atStart => exact ⟨0, by omega, rfl, Below.refl _ _⟩
    case round =>
      obtain ⟨i, hi, rfl, hb⟩ := hrel
      have HB2 := Lib.hid hb
      have BR := Lib.hid (bthen hb BL.out lwb)
      have lzw := hb.size
      by_cases hlt : i < l.length
      rotate_left
      · obtain rfl : i = l.length := by omega
        clear hlt hi hb
        go_wp2_with ((go_at_call 11; (with_reducible refine (awake22 _).mono ?_); rintro e w3 ⟨rfl, hb⟩); have BR := Lib.hid (bthen hb BR.out BR.out.size); clear hb)
        go_ret
        exact ⟨rfl, BR.out⟩
      have O15 := Lib.hid (O15.out.below hb lz15)
      have HPM := range_below (owns_range OM.out) hb lzm
      have hck := ((bcell BR.out).1 B (o + i) hB).trans (HC.out i hlt)
      have hg := HG.out i hlt
      have hpx := HIM.out.2 i hlt
      have hlen := HIM.out.1
      obtain ⟨x, hx⟩ : ∃ x, l.getD i 0 = x := ⟨_, rfl⟩
      rw [hx] at hck hg hpx
      obtain ⟨q, hq⟩ : ∃ q, i / W = q := ⟨_, rfl⟩
      obtain ⟨rx, hrx⟩ : ∃ r, i % W = r := ⟨_, rfl⟩
      have hrW : rx < W := by rw [← hrx]; exact Nat.mod_lt _ hW
      have hqR : q < R := by rw [← hq, Nat.div_lt_iff_lt_mul hW, ← HRR.out]; exact hlt
      obtain ⟨rr, hrr⟩ : ∃ r, R - 1 - q = r := ⟨_, rfl⟩
      obtain ⟨mq, hmq⟩ : ∃ m, rr * W = m := ⟨_, rfl⟩
      obtain ⟨pp, hpp⟩ : ∃ p, mq + rx = p := ⟨_, rfl⟩
      have hpl := place_in (W := W) (H := R) (x := rx) (y := q) (n := 1) hqR (by omega)
      rw [hq, hrx, hrr, hmq, hpp] at hpx
      rw [hrr, hmq, hpp] at hpl
      have hpn : pp < l.length := by rw [HRR.out, Nat.mul_comm R W]; omega
      have eI : Int.tdiv (i : Int) (W : Int) = (q : Int) := by rw [Int.tdiv_eq_ediv_of_nonneg (by omega), ← Int.natCast_ediv, hq]
      have eJ : Int.tmod (i : Int) (W : Int) = (rx : Int) := by rw [Int.tmod_eq_emod_of_nonneg (by omega), ← Int.natCast_emod, hrx]
      have eM : (rr : Int) * (W : Int) = (mq : Int) := by rw [← hmq]; exact (Int.natCast_mul rr W).symm
      have hrr2 : (R : Int) - 1 - (q : Int) = (rr : Int) := by omega
      have hx0 := hg.1
      have hx1 := hg.2
      have HPX := Lib.hid (range_part (L2 := [.int .u8 0, .int .u8 0, .int .u8 x, .int .u8 255]) HPM (4 * pp) (fun j v hv => by
        have hj : j < 4 := by
          rcases Nat.lt_or_ge j 4 with h | h
          · exact h
          · rw [List.getElem?_eq_none (by simpa using h)] at hv; cases hv
        have h5 := pxC_get L' pp j hj
        rw [hpx] at h5
        exact h5.symm.trans hv))
      rw [Nat.zero_add] at HPX
      have lgm : gm < wr.heap.size := by omega
      have l15 : p15 < wr.heap.size := by omega
      clear hx hq hrx hrr hmq hpx hlen hpl HPM hg hb
      go_upto_region 26 with (fail)
      refine wp_region_noPanic ?_
      refine wp_region_held_drew (S := fun w' => Chg (fun _ => False) wr w') (by kernel_rfl) (Chg.refl _ _).drew (fun hHeld => ?_)
      refine wpAnyH_take (i := 0) (v := .pointer (some ⟨p15, 2, none⟩)) rfl (by kernel_rfl) (by kernel_rfl) (by kernel_rfl) (fun _ _ _ h => h) (Or.inl ⟨by rfl, fun w hS => by (go_simp) <;> first | rfl | assumption | (intro hh; exfalso; omega) | (exact (i64_wraps _ (by omega) (by omega)).trans (by omega)) | omega⟩) hHeld ?_
      simp only [Act.put, List.setIfInBounds_toArray, List.set_cons_zero, List.set_cons_succ, List.getElem_toArray, List.getElem_cons_zero, List.getElem_cons_succ]
      refine wpAnyH_take (i := 1) (v := .slice (some ⟨gm, 0, none⟩) l.length cm) rfl (by kernel_rfl) (by kernel_rfl) (by kernel_rfl) (fun _ _ _ h => h) (Or.inl ⟨by rfl, fun w hS => by (have hc : w.cell? ⟨p15, 2, none⟩ = some (.slice (some ⟨gm, 0, none⟩) l.length cm) := (hS.cell (b := p15) (o := 2) (by omega) (fun h => h)).trans ((O15.out.cell 2).trans rfl); go_simp)⟩) hHeld ?_
      simp only [Act.put, List.setIfInBounds_toArray, List.set_cons_zero, List.set_cons_succ, List.getElem_toArray, List.getElem_cons_zero, List.getElem_cons_succ]
      refine wpAnyH_take (i := 2) (v := .int .i64 (R : Int)) rfl (by kernel_rfl) (by kernel_rfl) (by kernel_rfl) (fun _ _ _ h => h) (Or.inl ⟨by rfl, fun w hS => by (go_simp) <;> first | rfl | assumption | (intro hh; exfalso; omega) | (exact (i64_wraps _ (by omega) (by omega)).trans (by omega)) | omega⟩) hHeld ?_
      simp only [Act.put, List.setIfInBounds_toArray, List.set_cons_zero, List.set_cons_succ, List.getElem_toArray, List.getElem_cons_zero, List.getElem_cons_succ]
      refine wpAnyH_take (i := 3) (v := .int .i64 (((R : Int)) - 1)) rfl (by kernel_rfl) (by kernel_rfl) (by kernel_rfl) (fun _ _ _ h => h) (Or.inl ⟨by rfl, fun w hS => by (go_simp) <;> first | rfl | assumption | (intro hh; exfalso; omega) | (exact (i64_wraps _ (by omega) (by omega)).trans (by omega)) | omega⟩) hHeld ?_
      simp only [Act.put, List.setIfInBounds_toArray, List.set_cons_zero, List.set_cons_succ, List.getElem_toArray, List.getElem_cons_zero, List.getElem_cons_succ]
      refine wpAnyH_take (i := 4) (v := .int .i64 (i : Int)) rfl (by kernel_rfl) (by kernel_rfl) (by kernel_rfl) (fun _ _ _ h => h) (Or.inl ⟨by rfl, fun w hS => by (go_simp) <;> first | rfl | assumption | (intro hh; exfalso; omega) | (exact (i64_wraps _ (by omega) (by omega)).trans (by omega)) | omega⟩) hHeld ?_
      simp only [Act.put, List.setIfInBounds_toArray, List.set_cons_zero, List.set_cons_succ, List.getElem_toArray, List.getElem_cons_zero, List.getElem_cons_succ]
      refine wpAnyH_take (i := 5) (v := .int .i64 (W : Int)) rfl (by kernel_rfl) (by kernel_rfl) (by kernel_rfl) (fun _ _ _ h => h) (Or.inl ⟨by rfl, fun w hS => by (go_simp) <;> first | rfl | assumption | (intro hh; exfalso; omega) | (exact (i64_wraps _ (by omega) (by omega)).trans (by omega)) | omega⟩) hHeld ?_
      simp only [Act.put, List.setIfInBounds_toArray, List.set_cons_zero, List.set_cons_succ, List.getElem_toArray, List.getElem_cons_zero, List.getElem_cons_succ]
      refine wpAnyH_take (i := 6) (v := .int .i64 (q : Int)) rfl (by kernel_rfl) (by kernel_rfl) (by kernel_rfl) (fun _ _ _ h => h) (Or.inl ⟨by rfl, fun w hS => by (go_simp) <;> first | rfl | assumption | (intro hh; exfalso; omega) | (exact (i64_wraps _ (by omega) (by omega)).trans (by omega)) | omega⟩) hHeld ?_
      simp only [Act.put, List.setIfInBounds_toArray, List.set_cons_zero, List.set_cons_succ, List.getElem_toArray, List.getElem_cons_zero, List.getElem_cons_succ]
      refine wpAnyH_take (i := 7) (v := .int .i64 (rr : Int)) rfl (by kernel_rfl) (by kernel_rfl) (by kernel_rfl) (fun _ _ _ h => h) (Or.inl ⟨by rfl, fun w hS => by (go_simp) <;> first | rfl | assumption | (intro hh; exfalso; omega) | (exact (i64_wraps _ (by omega) (by omega)).trans (by omega)) | omega⟩) hHeld ?_
      simp only [Act.put, List.setIfInBounds_toArray, List.set_cons_zero, List.set_cons_succ, List.getElem_toArray, List.getElem_cons_zero, List.getElem_cons_succ]
      refine wpAnyH_take (i := 8) (v := .int .i64 (W : Int)) rfl (by kernel_rfl) (by kernel_rfl) (by kernel_rfl) (fun _ _ _ h => h) (Or.inl ⟨by rfl, fun w hS => by (go_simp) <;> first | rfl | assumption | (intro hh; exfalso; omega) | (exact (i64_wraps _ (by omega) (by omega)).trans (by omega)) | omega⟩) hHeld ?_
      simp only [Act.put, List.setIfInBounds_toArray, List.set_cons_zero, List.set_cons_succ, List.getElem_toArray, List.getElem_cons_zero, List.getElem_cons_succ]
      refine wpAnyH_take (i := 9) (v := .int .i64 (mq : Int)) rfl (by kernel_rfl) (by kernel_rfl) (by kernel_rfl) (fun _ _ _ h => h) (Or.inl ⟨by rfl, fun w hS => by (go_simp) <;> first | rfl | assumption | (intro hh; exfalso; omega) | (exact (i64_wraps _ (by omega) (by omega)).trans (by omega)) | omega⟩) hHeld ?_
      simp only [Act.put, List.setIfInBounds_toArray, List.set_cons_zero, List.set_cons_succ, List.getElem_toArray, List.getElem_cons_zero, List.getElem_cons_succ]
      refine wpAnyH_take (i := 10) (v := .int .i64 (i : Int)) rfl (by kernel_rfl) (by kernel_rfl) (by kernel_rfl) (fun _ _ _ h => h) (Or.inl ⟨by rfl, fun w hS => by (go_simp) <;> first | rfl | assumption | (intro hh; exfalso; omega) | (exact (i64_wraps _ (by omega) (by omega)).trans (by omega)) | omega⟩) hHeld ?_
      simp only [Act.put, List.setIfInBounds_toArray, List.set_cons_zero, List.set_cons_succ, List.getElem_toArray, List.getElem_cons_zero, List.getElem_cons_succ]
      refine wpAnyH_take (i := 11) (v := .int .i64 (W : Int)) rfl (by kernel_rfl) (by kernel_rfl) (by kernel_rfl) (fun _ _ _ h => h) (Or.inl ⟨by rfl, fun w hS => by (go_simp) <;> first | rfl | assumption | (intro hh; exfalso; omega) | (exact (i64_wraps _ (by omega) (by omega)).trans (by omega)) | omega⟩) hHeld ?_
      simp only [Act.put, List.setIfInBounds_toArray, List.set_cons_zero, List.set_cons_succ, List.getElem_toArray, List.getElem_cons_zero, List.getElem_cons_succ]
      refine wpAnyH_take (i := 12) (v := .int .i64 (rx : Int)) rfl (by kernel_rfl) (by kernel_rfl) (by kernel_rfl) (fun _ _ _ h => h) (Or.inl ⟨by rfl, fun w hS => by (go_simp) <;> first | rfl | assumption | (intro hh; exfalso; omega) | (exact (i64_wraps _ (by omega) (by omega)).trans (by omega)) | omega⟩) hHeld ?_
      simp only [Act.put, List.setIfInBounds_toArray, List.set_cons_zero, List.set_cons_succ, List.getElem_toArray, List.getElem_cons_zero, List.getElem_cons_succ]
      refine wpAnyH_take (i := 13) (v := .int .i64 (pp : Int)) rfl (by kernel_rfl) (by kernel_rfl) (by kernel_rfl) (fun _ _ _ h => h) (Or.inl ⟨by rfl, fun w hS => by (go_simp) <;> first | rfl | assumption | (intro hh; exfalso; omega) | (exact (i64_wraps _ (by omega) (by omega)).trans (by omega)) | omega⟩) hHeld ?_
      simp only [Act.put, List.setIfInBounds_toArray, List.set_cons_zero, List.set_cons_succ, List.getElem_toArray, List.getElem_cons_zero, List.getElem_cons_succ]
      refine wpAnyH_take (i := 14) (v := .pointer (some ⟨gm, 4 * pp, none⟩)) rfl (by kernel_rfl) (by kernel_rfl) (by kernel_rfl) (fun _ _ _ h => h) (Or.inl ⟨by rfl, fun w hS => by (go_simp) <;> first | rfl | (intro hh; exfalso; omega) | (refine (if_pos ⟨by omega, by omega⟩).trans ?_; exact congrArg (fun z => Result.ok (Next.value (Value.pointer (some ⟨gm, z, none⟩))) w) (by omega))⟩) hHeld ?_
      simp only [Act.put, List.setIfInBounds_toArray, List.set_cons_zero, List.set_cons_succ, List.getElem_toArray, List.getElem_cons_zero, List.getElem_cons_succ]
      refine wpAnyH_take (i := 15) (v := .agg (List.toArray ([.int .u8 0, .int .u8 0, .int .u8 x, .int .u8 255]))) rfl (by kernel_rfl) (by kernel_rfl) (by kernel_rfl) (fun _ _ _ h => h) (yieldsIf_load_mid (by rfl) 41 _ rfl (gm) (4 * pp) rfl ([.int .u8 0, .int .u8 0, .int .u8 x, .int .u8 255]) _ (fun w hS => range_chg HPX.out hS (by omega) (fun h => h)) Try.underlying41 rfl (by kernel_rfl)) hHeld ?_
      simp only [Act.put, List.setIfInBounds_toArray, List.set_cons_zero, List.set_cons_succ, List.getElem_toArray, List.getElem_cons_zero, List.getElem_cons_succ]
      have hS := (Chg.refl (fun _ => False) wr).drew
      generalize World.drew _ = wk at hS ⊢
      refine wpAnyH_ready (rs := [16]) (by kernel_rfl) (by simp) ?_
      refine AllReadyH.cons (o := _) rfl (fun K' hK => ?_) AllReadyH.nil
      go_simp
      have O18 := Lib.hid (obj1_new wk #[.int .u8 0, .int .u8 0, .int .u8 0, .int .u8 0] 41)
      have hS2 := hS.alloc (.cells #[.int .u8 0, .int .u8 0, .int .u8 0, .int .u8 0] 41)
      have hsz8 := hS.size
      obtain ⟨p18, hp18⟩ : ∃ p, wk.heap.size = p := ⟨_, rfl⟩
      rw [hp18] at O18 ⊢
      rw [hp18] at hsz8
      clear hp18
      generalize World.alloc wk _ = wk2 at O18 hS2 ⊢
      refine hK _ _ hS2 (fun hA1 => ?_)
      clear hK K'
      try simp only [Act.put, List.setIfInBounds_toArray, List.set_cons_zero, List.set_cons_succ, List.getElem_toArray, List.getElem_cons_zero, List.getElem_cons_succ]
      refine wpAnyH_ready (rs := [17]) (by kernel_rfl) (by simp) ?_
      refine AllReadyH.cons (o := _) rfl (fun K' hK => ?_) AllReadyH.nil
      rw [if_pos (by rfl)]
      refine wp_store_mid 41 _ _ rfl p18 0 (List.toArray [.int .u8 0, .int .u8 0, .int .u8 x, .int .u8 255]) rfl rfl (O18.out.there 0 4 (by simp)) (by kernel_rfl) (all_oneCell_toArray (List.all_eq_true.1 (by rfl))) ?_
      simp only [Act.put, List.setIfInBounds_toArray, List.set_cons_zero, List.set_cons_succ, List.getElem_toArray, List.getElem_cons_zero, List.getElem_cons_succ]
      have hst : Stored wk2 p18 0 [.int .u8 0, .int .u8 0, .int .u8 x, .int .u8 255] (wk2.setCells p18 0 [.int .u8 0, .int .u8 0, .int .u8 x, .int .u8 255]) := rfl
      have O18 := Lib.hid (hst.whole O18.out (by first | rfl | simp))
      have hS3 := Stored.chgS hst hS2 (Or.inr hsz8)
      generalize World.setCells _ _ _ _ = wk3 at O18 hS3 ⊢
      clear hst hS hS2 hA1
      refine hK _ _ hS3 (fun hA2 => ?_)
      clear hK K' hA2
      refine wpAnyH_done (by kernel_rfl) ?_ _
      refine NoPanic.normal ?_
      have eU : IntKind.u8.wrap x = x := by show x % 256 = x; omega
      have HB3 := HB2.out.trans (hS3.below (B := w11.heap.size) lzw (fun _ h => h.elim))
      go_wp2_with (refine load_u (by kernel_rfl) 41 4 _ rfl p18 [.int .u8 0, .int .u8 0, .int .u8 x, .int .u8 255] rfl rfl O18.out Try.underlying41 rfl (by kernel_rfl) ?_; intro _)
      go_roundw
      case rel => exact ⟨i + 1, by omega, by go_num, HB3⟩
      case measure => simp [intOf]; omega
set_option maxRecDepth 100000 in
set_option maxHeartbeats 16000000 in
theorem packs22_good8 (l : List Int) (B o cap W R : Nat) (w : World) (h : Arg22 l B o cap W R 8 w) (hgood : ∀ i, i < l.length → 0 ≤ l.getD i 0 ∧ l.getD i 0 < 256) : Calls Try.prog 3 #[.slice (some ⟨B, o, none⟩) l.length cap, .int .i64 W, .int .i64 8] w (Yes22 w) := by
  obtain ⟨S, hS0⟩ : ∃ S, strOf (encA l W 8 0) = S := ⟨_, rfl⟩
  have HSS := Lib.hid hS0
  have HP := Lib.hid ((epack_any l B o cap W 8 w h.hB (by have := h.hn; omega) h.hcap h.hcm h.hc).mono (R' := fun e w' => e = .returned (.tuple #[.string S, .int .i64 0]) ∧ Below w.heap.size w w') fun e w' hh => by
    unfold rleI at hh
    rw [if_neg h.notarg, if_pos (show ∀ i, i < l.length → 0 ≤ l.getD i 0 ∧ l.getD i 0 < 2 ^ (8 : Int).toNat from hgood)] at hh
    rw [← hS0]
    exact hh)
  have HQ := Lib.hid (fun w0 (hb : Below w.heap.size w w0) => (rpack22_go l B o cap W R 8 w0 (Nat.lt_of_lt_of_le h.hB hb.size) (by have := h.hn; omega) h.hW h.hW2 h.hd h.hR hgood (fun i hi => ((bcell hb).1 B (o + i) h.hB).trans (h.hc i hi))).mono (R' := fun e w' => e = .returned (.string S) ∧ Below w0.heap.size w0 w') fun e w' hh => by rw [← hS0]; exact hh)
  have HC := Lib.hid h.hc
  have hB := h.hB
  have hn := h.hn
  have hW := h.hW
  have hW2 := h.hW2
  have hd := h.hd
  have hR := h.hR
  have hn1 : 1 ≤ l.length := by rw [h.hR]; exact Nat.mul_le_mul h.hR1 hW
  have D5 : ((l.length : Int) == 0) = false := by rw [beq_eq_false_iff_ne]; omega
  have hW0 : ¬ W = 0 := by omega
  have hmI : (l.length : Int) % (W : Int) = 0 := by rw [← Int.natCast_emod, hR, Nat.mul_mod_left]; rfl
  have HRR := Lib.hid hR
  clear hR
  have hR1 := h.hR1
  have hRb : R ≤ 800 := Nat.le_trans (Nat.le_mul_of_pos_right R hW) (by rw [← h.hR]; exact hn)
  have eT : Int.tdiv (l.length : Int) (W : Int) = (R : Int) := by
    rw [Int.tdiv_eq_ediv_of_nonneg (by omega), ← Int.natCast_ediv, h.hR, Nat.mul_div_cancel _ hW]
  have HG := Lib.hid hgood
  have HPW := Lib.hid (fun w0 => (power_any 8 w0 (by decide) (by decide)).mono (R' := fun e w' => e = .returned (.int .i64 256) ∧ w' = w0) fun e w' hh => ⟨hh.1.trans (by rfl), hh.2.symm⟩)
  clear hgood h hS0
  go_enter Try.func3, Try.ntmps3
  go_wp2_with (first
    | ((with_reducible refine skip_g rfl ?_ ?_); rfl; intro _)
    | (go_at_call 12; (with_reducible refine (HP.out).mono ?_); rintro e w1 ⟨rfl, hb1⟩; obtain ⟨hc1, hf1⟩ := bcell hb1))
  have BL := Lib.hid hb1
  clear hc1 hf1
  go_loop [10, 67] (fun v i => ∃ j : Nat, j ≤ l.length ∧ i = .int .i64 j) (fun _ i => l.length - (intOf i).toNat)
  case atStart => exact ⟨0, by omega, rfl⟩
  case round =>
    obtain ⟨j, hj, rfl⟩ := hrel
    by_cases hlt : j < l.length
    · have hck := ((bcell BL.out).1 B (o + j) hB).trans (HC.out j hlt)
      obtain ⟨g0, g1⟩ := HG.out j hlt
      obtain ⟨x, hx⟩ : ∃ x, l.getD j 0 = x := ⟨_, rfl⟩
      rw [hx] at hck g0 g1
      clear hx hb1
      go_wp2_with (first
        | (go_at_call 13; (with_reducible refine (HPW.out _).mono ?_); rintro e w2 ⟨rfl, rfl⟩)
        | ((with_reducible refine skip_g rfl ?_ ?_); rfl; intro _))
      go_round
      case rel => exact ⟨j + 1, by omega, by go_num⟩
      case measure => simp [intOf]; omega
    obtain rfl : j = l.length := by omega
    clear hlt hj hb1
    by_cases hbig : 40 < W ∨ 40 < R
    · as_aux_lemma =>
        rcases hbig with hbig | hbig
        · go_wp2_with (first
            | ((with_reducible refine skip_g rfl ?_ ?_); rfl; intro _)
            | ((go_at_call 14; (with_reducible refine (HQ.out _ BL.out).mono ?_); rintro e w2 ⟨rfl, hb⟩); have BL := Lib.hid (bthen hb BL.out BL.out.size); clear hb)
            | ((go_at_call 11; (with_reducible refine (awake22 _).mono ?_); rintro e w3 ⟨rfl, hb⟩); have BL := Lib.hid (bthen hb BL.out BL.out.size); clear hb))
          go_ret
          exact ⟨rfl, BL.out⟩
        · by_cases hbW : 40 < W
          · go_wp2_with (first
              | ((with_reducible refine skip_g rfl ?_ ?_); rfl; intro _)
              | ((go_at_call 14; (with_reducible refine (HQ.out _ BL.out).mono ?_); rintro e w2 ⟨rfl, hb⟩); have BL := Lib.hid (bthen hb BL.out BL.out.size); clear hb)
              | ((go_at_call 11; (with_reducible refine (awake22 _).mono ?_); rintro e w3 ⟨rfl, hb⟩); have BL := Lib.hid (bthen hb BL.out BL.out.size); clear hb))
            go_ret
            exact ⟨rfl, BL.out⟩
          · go_wp2_with (first
              | ((with_reducible refine skip_g rfl ?_ ?_); rfl; intro _)
              | ((go_at_call 14; (with_reducible refine (HQ.out _ BL.out).mono ?_); rintro e w2 ⟨rfl, hb⟩); have BL := Lib.hid (bthen hb BL.out BL.out.size); clear hb)
              | ((go_at_call 11; (with_reducible refine (awake22 _).mono ?_); rintro e w3 ⟨rfl, hb⟩); have BL := Lib.hid (bthen hb BL.out BL.out.size); clear hb))
            go_ret
            exact ⟨rfl, BL.out⟩
    have hW40 : W ≤ 40 := by omega
    have hR40 : R ≤ 40 := by omega
    clear hbig hW2
    obtain ⟨HB, hHB⟩ : ∃ H, strOf (head8 W R ++ tabI 256) = H := ⟨_, rfl⟩
    obtain ⟨F, hF⟩ : ∃ F, HB ++ S = F := ⟨_, rfl⟩
    have hF2 : F = strOf (head8 W R ++ tabI 256 ++ encA l W 8 0) := by rw [← hF, ← hHB, ← HSS.out, strOf_app]
    have hFz : F.size = 40 + 1024 + (encA l W 8 0).length := by rw [hF2, strOf_size3, List.length_append, List.length_append, tabI_len]; rfl
    have henc := encA_len l W 8 0
    have hFb : F.size ≤ 20000 := by omega
    have hF40 : 40 ≤ F.size := by omega
    have hF41 : ¬ F.size < 40 + 1024 := by omega
    have HHB := Lib.hid (fun w0 => (lhead8_any W R w0 hW40 hR40).mono (R' := fun e w' => e = .returned (.string HB) ∧ Below w0.heap.size w0 w') fun e w' hh => by rw [← hHB]; exact hh)
    have HRH := Lib.hid (fun w0 => (show Calls Try.prog 16 #[.string F, .int .i64 0, .int .i64 F.size] w0 (RA w0 [.int .i64 40, .int .i64 W, .int .i64 R, .bool false, .int .i64 8, .int .i64 1, .int .i64 256, .int .i64 0, .int .i64 0, .int .i64 0, .int .i64 0, .int .i64 0, .int .i64 40, .int .i64 0, .int .i64 0]) from (rread20_any F 0 w0 (Nat.zero_le _) (by decide) (by omega)).mono fun e w' hh => by
      rw [hF2, List.append_assoc, file8_head W R _ hW hW40 hR1 hR40] at hh; exact hh))
    have hcc : HB.size + S.size ≤ 20000 := by rw [← ByteArray.size_append, hF]; exact hFb
    have HRT := Lib.hid (fun w0 => (show Calls Try.prog 17 #[.string F, .agg (List.toArray [.int .i64 40, .int .i64 W, .int .i64 R, .bool false, .int .i64 8, .int .i64 1, .int .i64 256, .int .i64 0, .int .i64 0, .int .i64 0, .int .i64 0, .int .i64 0, .int .i64 40, .int .i64 0, .int .i64 0]), .int .i64 F.size] w0 (fun e w' => ∃ gt ct, e = .returned (.agg (List.toArray [.int .i64 1064, .slice (some ⟨gt, 0, none⟩) 256 ct, .int .i64 0, .int .i64 0])) ∧ w'.ownsRow w0.heap.size 41 4 (.slice (some ⟨gt, 0, none⟩) 256 ct) 256 (colT 256) ∧ Below w0.heap.size w0 w') from (table21_any F 40 W R false 8 1 256 0 0 0 0 0 40 4 1024 w0 rfl (by decide) (by decide) hF40 (by omega)).mono fun e w' hh => by
      unfold Table21Post at hh
      rw [if_neg hF41, if_pos (by decide), hF2, colsL_tab _ _ 256 rfl (by decide) 256 (Nat.le_refl _)] at hh
      obtain ⟨⟨v, he, hv⟩, hb⟩ := hh
      obtain ⟨gt, ct, rfl, _, _⟩ := owns_form4 hv (by decide)
      exact ⟨gt, ct, he, hv, hb⟩))
    obtain ⟨L', hrl, himg⟩ := rle_back l W R 256 F.size 8 F hW HRR.out (by omega) HG.out l.length 0 ⟨0, 0, 40 + 1024, zC l.length⟩ (F.size + 1) (by omega) (by omega) (by simp) (by simp) ⟨by rw [zC_len, HRR.out, Nat.mul_comm R W], fun j hj => by omega⟩ (fun j hj => by
      show byN F (40 + 1024 + j) = _
      rw [hF2]
      refine byN_strOf3 _ _ _ ?_ ?_ ?_
      · rw [List.getElem?_append_right (by rw [List.length_append, tabI_len]; show 40 + _ ≤ _; omega), List.length_append, tabI_len, show (head8 W R).length = 40 from rfl, show 40 + 1024 + j - (40 + 4 * 256) = j by omega, List.getD_eq_getElem?_getD, List.getElem?_eq_getElem hj]; rfl
      · exact (encA_bytes l W 8 (by omega) hW HRR.out HG.out 0 j hj).1
      · exact (encA_bytes l W 8 (by omega) hW HRR.out HG.out 0 j hj).2) hFz (by show F.size < 40 + 1024 + _; omega)
    have HRR2 := Lib.hid (fun w0 gt ct bt (ht : w0.ownsRow bt 41 4 (.slice (some ⟨gt, 0, none⟩) 256 ct) 256 (colT 256)) => (show Calls Try.prog 18 #[.string F, .int .i64 1064, .int .i64 F.size, .agg (List.toArray [.int .i64 40, .int .i64 W, .int .i64 R, .bool false, .int .i64 8, .int .i64 1, .int .i64 256, .int .i64 0, .int .i64 0, .int .i64 0, .int .i64 0, .int .i64 0, .int .i64 40, .int .i64 0, .int .i64 0]), .slice (some ⟨gt, 0, none⟩) 256 ct] w0 (fun e w' => ∃ gm cm, e = .returned (.agg (List.toArray [.int .i64 W, .int .i64 R, .slice (some ⟨gm, 0, none⟩) l.length cm, .int .i64 0, .int .i64 0])) ∧ w'.ownsRow w0.heap.size 41 4 (.slice (some ⟨gm, 0, none⟩) l.length cm) l.length L' ∧ Below w0.heap.size w0 w') from (read22_any 40 W R false 8 1 256 0 0 0 0 0 40 F (40 + 1024) F.size l.length 256 gt ct bt (F.size + 1) (colT 256) w0 (by rw [HRR.out, Nat.mul_comm]) hW40 hR40 hW hR1 (by decide) (by omega) (Nat.le_refl _) (by omega) (by omega) (by omega) ht (colT_all 256)).mono fun e w' hh => by
      rw [hrl] at hh; exact hh))
    have HIM := Lib.hid himg
    clear hF2 hFz henc hrl himg hHB
    go_upto_region 18 with (first
      | ((with_reducible refine skip_g rfl ?_ ?_); rfl; intro _)
      | ((go_at_call 14; (with_reducible refine (HQ.out _ BL.out).mono ?_); rintro e w2 ⟨rfl, hb⟩); have BL := Lib.hid (bthen hb BL.out BL.out.size); clear hb)
      | ((go_at_call 15; (with_reducible refine (HHB.out _).mono ?_); rintro e w5 ⟨rfl, hb⟩); have BL := Lib.hid (bthen hb BL.out BL.out.size); clear hb))
    go_upto_region 19 with ((go_at_call 16; (with_reducible refine (HRH.out _).mono ?_); rintro e w6 ⟨rfl, hb⟩); have BL := Lib.hid (bthen hb BL.out BL.out.size); clear hb)
    have O13 := Lib.hid (obj1_new w6 (List.toArray [.int .i64 40, .int .i64 W, .int .i64 R, .bool false, .int .i64 8, .int .i64 1, .int .i64 256, .int .i64 0, .int .i64 0, .int .i64 0, .int .i64 0, .int .i64 0, .int .i64 40, .int .i64 0, .int .i64 0]) 31)
    have BL := Lib.hid (BL.out.alloc BL.out.size (.cells (List.toArray [.int .i64 40, .int .i64 W, .int .i64 R, .bool false, .int .i64 8, .int .i64 1, .int .i64 256, .int .i64 0, .int .i64 0, .int .i64 0, .int .i64 0, .int .i64 0, .int .i64 40, .int .i64 0, .int .i64 0]) 31))
    obtain ⟨p13, hp13⟩ : ∃ p, w6.heap.size = p := ⟨_, rfl⟩
    rw [hp13] at O13 ⊢
    generalize World.alloc w6 _ = w7 at O13 BL ⊢
    clear hp13
    go_upto_region 20 with (first
      | (refine load_u (by kernel_rfl) 31 15 _ rfl p13 [.int .i64 40, .int .i64 W, .int .i64 R, .bool false, .int .i64 8, .int .i64 1, .int .i64 256, .int .i64 0, .int .i64 0, .int .i64 0, .int .i64 0, .int .i64 0, .int .i64 40, .int .i64 0, .int .i64 0] rfl rfl O13.out Try.underlying31 rfl (by kernel_rfl) ?_; intro _)
      | ((go_at_call 17; (with_reducible refine (HRT.out _).mono ?_); rintro e w8 ⟨gt, ct, rfl, hown, hb⟩); have BL := Lib.hid (bthen hb BL.out BL.out.size); have O13 := Lib.hid (O13.out.below hb O13.out.lt); have OT := Lib.hid hown; have hgt := owns_lt hown; clear hb hown))
    have O14 := Lib.hid (obj1_new w8 (List.toArray [.int .i64 1064, .slice (some ⟨gt, 0, none⟩) 256 ct, .int .i64 0, .int .i64 0]) 35)
    have BL := Lib.hid (BL.out.alloc BL.out.size (.cells (List.toArray [.int .i64 1064, .slice (some ⟨gt, 0, none⟩) 256 ct, .int .i64 0, .int .i64 0]) 35))
    have O13 := Lib.hid (O13.out.alloc (.cells (List.toArray [.int .i64 1064, .slice (some ⟨gt, 0, none⟩) 256 ct, .int .i64 0, .int .i64 0]) 35))
    have OT := Lib.hid (OT.out.alloc (.cells (List.toArray [.int .i64 1064, .slice (some ⟨gt, 0, none⟩) 256 ct, .int .i64 0, .int .i64 0]) 35))
    obtain ⟨p14, hp14⟩ : ∃ p, w8.heap.size = p := ⟨_, rfl⟩
    rw [hp14] at O14 ⊢
    generalize World.alloc w8 _ = w9 at O13 O14 OT BL ⊢
    clear hp14
    have c140 := (O14.out.cell 0).trans (show _ = some (.int .i64 1064) from rfl)
    have c141 := (O14.out.cell 1).trans (show _ = some (.slice (some ⟨gt, 0, none⟩) 256 ct) from rfl)
    go_upto_region 21 with (first
      | (refine load_u (by kernel_rfl) 31 15 _ rfl p13 [.int .i64 40, .int .i64 W, .int .i64 R, .bool false, .int .i64 8, .int .i64 1, .int .i64 256, .int .i64 0, .int .i64 0, .int .i64 0, .int .i64 0, .int .i64 0, .int .i64 40, .int .i64 0, .int .i64 0] rfl rfl O13.out Try.underlying31 rfl (by kernel_rfl) ?_; intro _)
      | ((go_at_call 18; (with_reducible refine (HRR2.out _ _ _ _ OT.out).mono ?_); rintro e w10 ⟨gm, cm, rfl, hown, hb⟩); have BL := Lib.hid (bthen hb BL.out BL.out.size); have OM := Lib.hid hown; have hgm := owns_lt hown; clear hb hown))
    have O15 := Lib.hid (obj1_new w10 (List.toArray [.int .i64 W, .int .i64 R, .slice (some ⟨gm, 0, none⟩) l.length cm, .int .i64 0, .int .i64 0]) 38)
    have BL := Lib.hid (BL.out.alloc BL.out.size (.cells (List.toArray [.int .i64 W, .int .i64 R, .slice (some ⟨gm, 0, none⟩) l.length cm, .int .i64 0, .int .i64 0]) 38))
    have OM := Lib.hid (OM.out.alloc (.cells (List.toArray [.int .i64 W, .int .i64 R, .slice (some ⟨gm, 0, none⟩) l.length cm, .int .i64 0, .int .i64 0]) 38))
    obtain ⟨p15, hp15⟩ : ∃ p, w10.heap.size = p := ⟨_, rfl⟩
    rw [hp15] at O15 ⊢
    generalize World.alloc w10 _ = w11 at O15 OM BL ⊢
    clear hp15 c140 c141 hF hcc
    have c153 := (O15.out.cell 3).trans (show _ = some (.int .i64 0) from rfl)
    have c152 := (O15.out.cell 2).trans (show _ = some (.slice (some ⟨gm, 0, none⟩) l.length cm) from rfl)
    have lz15 := O15.out.lt
    have lzm := (owns_lt OM.out).2
    have lwb := BL.out.size
    go_wp2_with ((with_reducible refine skip_g rfl ?_ ?_); rfl; intro _)
    clear c153 c152
    go_loopw [147] (fun c wr => ∃ i : Nat, i ≤ l.length ∧ c = .int .i64 i ∧ Below w11.heap.size w11 wr) (fun c _ => l.length - (intOf c).toNat)
    case atStart => exact ⟨0, by omega, rfl, Below.refl _ _⟩
    case round =>
      obtain ⟨i, hi, rfl, hb⟩ := hrel
      have HB2 := Lib.hid hb
      have BR := Lib.hid (bthen hb BL.out lwb)
      have lzw := hb.size
      by_cases hlt : i < l.length
      rotate_left
      · obtain rfl : i = l.length := by omega
        clear hlt hi hb
        go_wp2_with ((go_at_call 11; (with_reducible refine (awake22 _).mono ?_); rintro e w3 ⟨rfl, hb⟩); have BR := Lib.hid (bthen hb BR.out BR.out.size); clear hb)
        go_ret
        exact ⟨rfl, BR.out⟩
      have O15 := Lib.hid (O15.out.below hb lz15)
      have HPM := range_below (owns_range OM.out) hb lzm
      have hck := ((bcell BR.out).1 B (o + i) hB).trans (HC.out i hlt)
      have hg := HG.out i hlt
      have hpx := HIM.out.2 i hlt
      have hlen := HIM.out.1
      obtain ⟨x, hx⟩ : ∃ x, l.getD i 0 = x := ⟨_, rfl⟩
      rw [hx] at hck hg hpx
      obtain ⟨q, hq⟩ : ∃ q, i / W = q := ⟨_, rfl⟩
      obtain ⟨rx, hrx⟩ : ∃ r, i % W = r := ⟨_, rfl⟩
      have hrW : rx < W := by rw [← hrx]; exact Nat.mod_lt _ hW
      have hqR : q < R := by rw [← hq, Nat.div_lt_iff_lt_mul hW, ← HRR.out]; exact hlt
      obtain ⟨rr, hrr⟩ : ∃ r, R - 1 - q = r := ⟨_, rfl⟩
      obtain ⟨mq, hmq⟩ : ∃ m, rr * W = m := ⟨_, rfl⟩
      obtain ⟨pp, hpp⟩ : ∃ p, mq + rx = p := ⟨_, rfl⟩
      have hpl := place_in (W := W) (H := R) (x := rx) (y := q) (n := 1) hqR (by omega)
      rw [hq, hrx, hrr, hmq, hpp] at hpx
      rw [hrr, hmq, hpp] at hpl
      have hpn : pp < l.length := by rw [HRR.out, Nat.mul_comm R W]; omega
      have eI : Int.tdiv (i : Int) (W : Int) = (q : Int) := by rw [Int.tdiv_eq_ediv_of_nonneg (by omega), ← Int.natCast_ediv, hq]
      have eJ : Int.tmod (i : Int) (W : Int) = (rx : Int) := by rw [Int.tmod_eq_emod_of_nonneg (by omega), ← Int.natCast_emod, hrx]
      have eM : (rr : Int) * (W : Int) = (mq : Int) := by rw [← hmq]; exact (Int.natCast_mul rr W).symm
      have hrr2 : (R : Int) - 1 - (q : Int) = (rr : Int) := by omega
      have hx0 := hg.1
      have hx1 := hg.2
      have HPX := Lib.hid (range_part (L2 := [.int .u8 0, .int .u8 0, .int .u8 x, .int .u8 255]) HPM (4 * pp) (fun j v hv => by
        have hj : j < 4 := by
          rcases Nat.lt_or_ge j 4 with h | h
          · exact h
          · rw [List.getElem?_eq_none (by simpa using h)] at hv; cases hv
        have h5 := pxC_get L' pp j hj
        rw [hpx] at h5
        exact h5.symm.trans hv))
      rw [Nat.zero_add] at HPX
      have lgm : gm < wr.heap.size := by omega
      have l15 : p15 < wr.heap.size := by omega
      clear hx hq hrx hrr hmq hpx hlen hpl HPM hg hb
      go_upto_region 26 with (fail)
      refine wp_region_noPanic ?_
      refine wp_region_held_drew (S := fun w' => Chg (fun _ => False) wr w') (by kernel_rfl) (Chg.refl _ _).drew (fun hHeld => ?_)
      refine wpAnyH_take (i := 0) (v := .pointer (some ⟨p15, 2, none⟩)) rfl (by kernel_rfl) (by kernel_rfl) (by kernel_rfl) (fun _ _ _ h => h) (Or.inl ⟨by rfl, fun w hS => by (go_simp) <;> first | rfl | assumption | (intro hh; exfalso; omega) | (exact (i64_wraps _ (by omega) (by omega)).trans (by omega)) | omega⟩) hHeld ?_
      simp only [Act.put, List.setIfInBounds_toArray, List.set_cons_zero, List.set_cons_succ, List.getElem_toArray, List.getElem_cons_zero, List.getElem_cons_succ]
      refine wpAnyH_take (i := 1) (v := .slice (some ⟨gm, 0, none⟩) l.length cm) rfl (by kernel_rfl) (by kernel_rfl) (by kernel_rfl) (fun _ _ _ h => h) (Or.inl ⟨by rfl, fun w hS => by (have hc : w.cell? ⟨p15, 2, none⟩ = some (.slice (some ⟨gm, 0, none⟩) l.length cm) := (hS.cell (b := p15) (o := 2) (by omega) (fun h => h)).trans ((O15.out.cell 2).trans rfl); go_simp)⟩) hHeld ?_
      simp only [Act.put, List.setIfInBounds_toArray, List.set_cons_zero, List.set_cons_succ, List.getElem_toArray, List.getElem_cons_zero, List.getElem_cons_succ]
      refine wpAnyH_take (i := 2) (v := .int .i64 (R : Int)) rfl (by kernel_rfl) (by kernel_rfl) (by kernel_rfl) (fun _ _ _ h => h) (Or.inl ⟨by rfl, fun w hS => by (go_simp) <;> first | rfl | assumption | (intro hh; exfalso; omega) | (exact (i64_wraps _ (by omega) (by omega)).trans (by omega)) | omega⟩) hHeld ?_
      simp only [Act.put, List.setIfInBounds_toArray, List.set_cons_zero, List.set_cons_succ, List.getElem_toArray, List.getElem_cons_zero, List.getElem_cons_succ]
      refine wpAnyH_take (i := 3) (v := .int .i64 (((R : Int)) - 1)) rfl (by kernel_rfl) (by kernel_rfl) (by kernel_rfl) (fun _ _ _ h => h) (Or.inl ⟨by rfl, fun w hS => by (go_simp) <;> first | rfl | assumption | (intro hh; exfalso; omega) | (exact (i64_wraps _ (by omega) (by omega)).trans (by omega)) | omega⟩) hHeld ?_
      simp only [Act.put, List.setIfInBounds_toArray, List.set_cons_zero, List.set_cons_succ, List.getElem_toArray, List.getElem_cons_zero, List.getElem_cons_succ]
      refine wpAnyH_take (i := 4) (v := .int .i64 (i : Int)) rfl (by kernel_rfl) (by kernel_rfl) (by kernel_rfl) (fun _ _ _ h => h) (Or.inl ⟨by rfl, fun w hS => by (go_simp) <;> first | rfl | assumption | (intro hh; exfalso; omega) | (exact (i64_wraps _ (by omega) (by omega)).trans (by omega)) | omega⟩) hHeld ?_
      simp only [Act.put, List.setIfInBounds_toArray, List.set_cons_zero, List.set_cons_succ, List.getElem_toArray, List.getElem_cons_zero, List.getElem_cons_succ]
      refine wpAnyH_take (i := 5) (v := .int .i64 (W : Int)) rfl (by kernel_rfl) (by kernel_rfl) (by kernel_rfl) (fun _ _ _ h => h) (Or.inl ⟨by rfl, fun w hS => by (go_simp) <;> first | rfl | assumption | (intro hh; exfalso; omega) | (exact (i64_wraps _ (by omega) (by omega)).trans (by omega)) | omega⟩) hHeld ?_
      simp only [Act.put, List.setIfInBounds_toArray, List.set_cons_zero, List.set_cons_succ, List.getElem_toArray, List.getElem_cons_zero, List.getElem_cons_succ]
      refine wpAnyH_take (i := 6) (v := .int .i64 (q : Int)) rfl (by kernel_rfl) (by kernel_rfl) (by kernel_rfl) (fun _ _ _ h => h) (Or.inl ⟨by rfl, fun w hS => by (go_simp) <;> first | rfl | assumption | (intro hh; exfalso; omega) | (exact (i64_wraps _ (by omega) (by omega)).trans (by omega)) | omega⟩) hHeld ?_
      simp only [Act.put, List.setIfInBounds_toArray, List.set_cons_zero, List.set_cons_succ, List.getElem_toArray, List.getElem_cons_zero, List.getElem_cons_succ]
      refine wpAnyH_take (i := 7) (v := .int .i64 (rr : Int)) rfl (by kernel_rfl) (by kernel_rfl) (by kernel_rfl) (fun _ _ _ h => h) (Or.inl ⟨by rfl, fun w hS => by (go_simp) <;> first | rfl | assumption | (intro hh; exfalso; omega) | (exact (i64_wraps _ (by omega) (by omega)).trans (by omega)) | omega⟩) hHeld ?_
      simp only [Act.put, List.setIfInBounds_toArray, List.set_cons_zero, List.set_cons_succ, List.getElem_toArray, List.getElem_cons_zero, List.getElem_cons_succ]
      refine wpAnyH_take (i := 8) (v := .int .i64 (W : Int)) rfl (by kernel_rfl) (by kernel_rfl) (by kernel_rfl) (fun _ _ _ h => h) (Or.inl ⟨by rfl, fun w hS => by (go_simp) <;> first | rfl | assumption | (intro hh; exfalso; omega) | (exact (i64_wraps _ (by omega) (by omega)).trans (by omega)) | omega⟩) hHeld ?_
      simp only [Act.put, List.setIfInBounds_toArray, List.set_cons_zero, List.set_cons_succ, List.getElem_toArray, List.getElem_cons_zero, List.getElem_cons_succ]
      refine wpAnyH_take (i := 9) (v := .int .i64 (mq : Int)) rfl (by kernel_rfl) (by kernel_rfl) (by kernel_rfl) (fun _ _ _ h => h) (Or.inl ⟨by rfl, fun w hS => by (go_simp) <;> first | rfl | assumption | (intro hh; exfalso; omega) | (exact (i64_wraps _ (by omega) (by omega)).trans (by omega)) | omega⟩) hHeld ?_
      simp only [Act.put, List.setIfInBounds_toArray, List.set_cons_zero, List.set_cons_succ, List.getElem_toArray, List.getElem_cons_zero, List.getElem_cons_succ]
      refine wpAnyH_take (i := 10) (v := .int .i64 (i : Int)) rfl (by kernel_rfl) (by kernel_rfl) (by kernel_rfl) (fun _ _ _ h => h) (Or.inl ⟨by rfl, fun w hS => by (go_simp) <;> first | rfl | assumption | (intro hh; exfalso; omega) | (exact (i64_wraps _ (by omega) (by omega)).trans (by omega)) | omega⟩) hHeld ?_
      simp only [Act.put, List.setIfInBounds_toArray, List.set_cons_zero, List.set_cons_succ, List.getElem_toArray, List.getElem_cons_zero, List.getElem_cons_succ]
      refine wpAnyH_take (i := 11) (v := .int .i64 (W : Int)) rfl (by kernel_rfl) (by kernel_rfl) (by kernel_rfl) (fun _ _ _ h => h) (Or.inl ⟨by rfl, fun w hS => by (go_simp) <;> first | rfl | assumption | (intro hh; exfalso; omega) | (exact (i64_wraps _ (by omega) (by omega)).trans (by omega)) | omega⟩) hHeld ?_
      simp only [Act.put, List.setIfInBounds_toArray, List.set_cons_zero, List.set_cons_succ, List.getElem_toArray, List.getElem_cons_zero, List.getElem_cons_succ]
      refine wpAnyH_take (i := 12) (v := .int .i64 (rx : Int)) rfl (by kernel_rfl) (by kernel_rfl) (by kernel_rfl) (fun _ _ _ h => h) (Or.inl ⟨by rfl, fun w hS => by (go_simp) <;> first | rfl | assumption | (intro hh; exfalso; omega) | (exact (i64_wraps _ (by omega) (by omega)).trans (by omega)) | omega⟩) hHeld ?_
      simp only [Act.put, List.setIfInBounds_toArray, List.set_cons_zero, List.set_cons_succ, List.getElem_toArray, List.getElem_cons_zero, List.getElem_cons_succ]
      refine wpAnyH_take (i := 13) (v := .int .i64 (pp : Int)) rfl (by kernel_rfl) (by kernel_rfl) (by kernel_rfl) (fun _ _ _ h => h) (Or.inl ⟨by rfl, fun w hS => by (go_simp) <;> first | rfl | assumption | (intro hh; exfalso; omega) | (exact (i64_wraps _ (by omega) (by omega)).trans (by omega)) | omega⟩) hHeld ?_
      simp only [Act.put, List.setIfInBounds_toArray, List.set_cons_zero, List.set_cons_succ, List.getElem_toArray, List.getElem_cons_zero, List.getElem_cons_succ]
      refine wpAnyH_take (i := 14) (v := .pointer (some ⟨gm, 4 * pp, none⟩)) rfl (by kernel_rfl) (by kernel_rfl) (by kernel_rfl) (fun _ _ _ h => h) (Or.inl ⟨by rfl, fun w hS => by (go_simp) <;> first | rfl | (intro hh; exfalso; omega) | (refine (if_pos ⟨by omega, by omega⟩).trans ?_; exact congrArg (fun z => Result.ok (Next.value (Value.pointer (some ⟨gm, z, none⟩))) w) (by omega))⟩) hHeld ?_
      simp only [Act.put, List.setIfInBounds_toArray, List.set_cons_zero, List.set_cons_succ, List.getElem_toArray, List.getElem_cons_zero, List.getElem_cons_succ]
      refine wpAnyH_take (i := 15) (v := .agg (List.toArray ([.int .u8 0, .int .u8 0, .int .u8 x, .int .u8 255]))) rfl (by kernel_rfl) (by kernel_rfl) (by kernel_rfl) (fun _ _ _ h => h) (yieldsIf_load_mid (by rfl) 41 _ rfl (gm) (4 * pp) rfl ([.int .u8 0, .int .u8 0, .int .u8 x, .int .u8 255]) _ (fun w hS => range_chg HPX.out hS (by omega) (fun h => h)) Try.underlying41 rfl (by kernel_rfl)) hHeld ?_
      simp only [Act.put, List.setIfInBounds_toArray, List.set_cons_zero, List.set_cons_succ, List.getElem_toArray, List.getElem_cons_zero, List.getElem_cons_succ]
      have hS := (Chg.refl (fun _ => False) wr).drew
      generalize World.drew _ = wk at hS ⊢
      refine wpAnyH_ready (rs := [16]) (by kernel_rfl) (by simp) ?_
      refine AllReadyH.cons (o := _) rfl (fun K' hK => ?_) AllReadyH.nil
      go_simp
      have O18 := Lib.hid (obj1_new wk #[.int .u8 0, .int .u8 0, .int .u8 0, .int .u8 0] 41)
      have hS2 := hS.alloc (.cells #[.int .u8 0, .int .u8 0, .int .u8 0, .int .u8 0] 41)
      have hsz8 := hS.size
      obtain ⟨p18, hp18⟩ : ∃ p, wk.heap.size = p := ⟨_, rfl⟩
      rw [hp18] at O18 ⊢
      rw [hp18] at hsz8
      clear hp18
      generalize World.alloc wk _ = wk2 at O18 hS2 ⊢
      refine hK _ _ hS2 (fun hA1 => ?_)
      clear hK K'
      try simp only [Act.put, List.setIfInBounds_toArray, List.set_cons_zero, List.set_cons_succ, List.getElem_toArray, List.getElem_cons_zero, List.getElem_cons_succ]
      refine wpAnyH_ready (rs := [17]) (by kernel_rfl) (by simp) ?_
      refine AllReadyH.cons (o := _) rfl (fun K' hK => ?_) AllReadyH.nil
      rw [if_pos (by rfl)]
      refine wp_store_mid 41 _ _ rfl p18 0 (List.toArray [.int .u8 0, .int .u8 0, .int .u8 x, .int .u8 255]) rfl rfl (O18.out.there 0 4 (by simp)) (by kernel_rfl) (all_oneCell_toArray (List.all_eq_true.1 (by rfl))) ?_
      simp only [Act.put, List.setIfInBounds_toArray, List.set_cons_zero, List.set_cons_succ, List.getElem_toArray, List.getElem_cons_zero, List.getElem_cons_succ]
      have hst : Stored wk2 p18 0 [.int .u8 0, .int .u8 0, .int .u8 x, .int .u8 255] (wk2.setCells p18 0 [.int .u8 0, .int .u8 0, .int .u8 x, .int .u8 255]) := rfl
      have O18 := Lib.hid (hst.whole O18.out (by first | rfl | simp))
      have hS3 := Stored.chgS hst hS2 (Or.inr hsz8)
      generalize World.setCells _ _ _ _ = wk3 at O18 hS3 ⊢
      clear hst hS hS2 hA1
      refine hK _ _ hS3 (fun hA2 => ?_)
      clear hK K' hA2
      refine wpAnyH_done (by kernel_rfl) ?_ _
      refine NoPanic.normal ?_
      have eU : IntKind.u8.wrap x = x := by show x % 256 = x; omega
      have HB3 := HB2.out.trans (hS3.below (B := w11.heap.size) lzw (fun _ h => h.elim))
      go_wp2_with (refine load_u (by kernel_rfl) 41 4 _ rfl p18 [.int .u8 0, .int .u8 0, .int .u8 x, .int .u8 255] rfl rfl O18.out Try.underlying41 rfl (by kernel_rfl) ?_; intro _)
      go_roundw
      case rel => exact ⟨i + 1, by omega, by go_num, HB3⟩
      case measure => simp [intOf]; omega
theorem packs22_walk (a : Option Addr) (n cap : Nat) (z : List Int) (wd d : Int) {w : World} (hr : IsRow .i64 w a n cap z) (_ : (Lit.int .i64 wd).wf = true) (_ : (Lit.int .i64 d).wf = true) (_ : World) : Calls Try.prog 3 #[.slice a n cap, .int .i64 wd, .int .i64 d] w fun e w' => e = .returned (.bool true) ∧ Below w.heap.size w w' := by
  by_cases hn : n ≤ 800
  · by_cases harg : rleArg n wd d
    · exact packs22_arg a n cap wd d w hn harg
    · have harg' := harg
      unfold rleArg at harg'
      rcases hr with ⟨rfl, rfl, rfl, rfl⟩ | ⟨x, rfl, h1, h2, h3, h4, h5⟩
      · exact absurd (Or.inr (Or.inr (Or.inr (Or.inl rfl)))) harg
      · have h0 : n ≠ 0 := by omega
        have hx := h4 0 (by omega)
        obtain ⟨B, o, sp⟩ := x
        have hB : B < w.heap.size := World.block_lt_of_cell? w _ hx
        obtain rfl : sp = none := by
          cases sp with
          | none => rfl
          | some q =>
            have h9 := hx
            unfold World.cell? Addr.add at h9
            split at h9 <;> simp at h9
        have hl : (z.take n).length = n := by rw [List.length_take]; omega
        have hc : ∀ i, i < (z.take n).length → w.cell? ⟨B, o + i, none⟩ = some (.int .i64 ((z.take n).getD i 0)) := by
          intro i hi
          rw [hl] at hi
          rw [List.getD_eq_getElem?_getD, List.getElem?_take, if_pos hi, ← List.getD_eq_getElem?_getD]
          have h8 := h4 i (by omega)
          rwa [Addr.add_mid] at h8
        obtain ⟨W, rfl⟩ := Int.eq_ofNat_of_zero_le (show 0 ≤ wd by omega)
        have hm : n % W = 0 := by
          rcases Nat.eq_zero_or_pos (n % W) with e | e
          · exact e
          · exact absurd (Or.inr (Or.inr (Or.inr (Or.inr (by simp; omega))))) harg
        have e := Nat.div_add_mod n W
        rw [hm, Nat.add_zero, Nat.mul_comm] at e
        have hd : d = 4 ∨ d = 8 := by omega
        have hA : Arg22 (z.take n) B o cap W (n / W) d w := by
          refine ⟨hB, by omega, by omega, by omega, by omega, by omega, by rw [hl]; exact e.symm, ?_, hd, hc⟩
          rcases Nat.eq_zero_or_pos (n / W) with e0 | e0
          · rw [e0, Nat.zero_mul] at e; omega
          · exact e0
        by_cases hg : ∀ i, i < (z.take n).length → 0 ≤ (z.take n).getD i 0 ∧ (z.take n).getD i 0 < 2 ^ d.toNat
        · rcases hd with rfl | rfl
          · have := packs22_good4 (z.take n) B o cap W (n / W) w hA hg
            rw [hl] at this
            exact this
          · have := packs22_good8 (z.take n) B o cap W (n / W) w hA hg
            rw [hl] at this
            exact this
        · have := packs22_bad (z.take n) B o cap W (n / W) d w hA hg
          rw [hl] at this
          exact this
  · refine packs22_long a n cap wd d w (by omega) ?_
    rcases hr with ⟨_, h1, _⟩ | ⟨x, _, h1, h2, _⟩
    · unfold maxLen; omega
    · omega
end Go.Proofs.Ytlhcjnjajkfahaa


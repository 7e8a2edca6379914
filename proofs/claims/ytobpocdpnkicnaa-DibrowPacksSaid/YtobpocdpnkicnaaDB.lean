/- The law DibrowPacks, walked. -/
import Derived.Test.YtobpocdpnkicnaaDA
namespace Go.Proofs.Ytobpocdpnkicnaa
open Go.RowKit
set_option linter.unusedVariables false
def Yes (w : World) (e : Ending) (w' : World) : Prop := e = .returned (.bool true) ∧ Below w.heap.size w w'
theorem depth_yes (d : Int) (hd : depthOk d) (w : World) : Calls Try.prog 25 #[.int .i64 d] w fun e w' => e = .returned (.bool true) ∧ w = w' := by
  rcases hd with rfl | rfl | rfl | rfl | rfl | rfl
  all_goals
    go_enter Try.func25, Try.ntmps25
    go_wp2
    go_ret
    exact ⟨rfl, rfl⟩
theorem depth_no (d : Int) (hd : ¬ depthOk d) (w : World) : Calls Try.prog 25 #[.int .i64 d] w fun e w' => e = .returned (.bool false) ∧ w = w' := by
  unfold depthOk at hd
  have h1 : (d == 1) = false := by rw [beq_eq_false_iff_ne]; omega
  have h2 : (d == 4) = false := by rw [beq_eq_false_iff_ne]; omega
  have h3 : (d == 8) = false := by rw [beq_eq_false_iff_ne]; omega
  have h4 : (d == 16) = false := by rw [beq_eq_false_iff_ne]; omega
  have h5 : (d == 24) = false := by rw [beq_eq_false_iff_ne]; omega
  have h6 : (d == 32) = false := by rw [beq_eq_false_iff_ne]; omega
  clear hd
  go_enter Try.func25, Try.ntmps25
  go_wp2
  go_ret
  exact ⟨rfl, rfl⟩
theorem pack_ex : packI [1, 0, 1] 1 = (⟨#[160, 0, 0, 0]⟩, 0) := by decide +kernel
theorem ints3 (w : World) (x y z : Int) (T : TypeId) : Ints (w.alloc (.cells #[.int .i64 x, .int .i64 y, .int .i64 z] T)) (.slice (some ⟨w.heap.size, 0, none⟩) 3 3) [x, y, z] := by
  refine Or.inr ⟨w.heap.size, 0, 3, rfl, by simp, ?_⟩
  intro i hi
  rcases (show i = 0 ∨ i = 1 ∨ i = 2 by simp at hi; omega) with rfl | rfl | rfl <;> simp [go_sem]
theorem dpack_ex (w : World) (T : TypeId) : Calls Try.prog 24 #[.slice (some ⟨w.heap.size, 0, none⟩) 3 3, .int .i64 1] (w.alloc (.cells #[.int .i64 1, .int .i64 0, .int .i64 1] T)) fun e w' => e = .returned (.tuple #[.string ⟨#[160, 0, 0, 0]⟩, .int .i64 0]) ∧ Below w.heap.size w w' :=
  (dpack_any [1, 0, 1] _ 1 _ (ints3 w 1 0 1 T) (by decide) (by unfold depthOk; omega)).mono fun e w' hh => by obtain ⟨h1, h2⟩ := hh; rw [pack_ex] at h1; exact ⟨h1, bthen h2 ((Below.refl _ _).alloc (Nat.le_refl _) _) (by simp)⟩
theorem awake21 (w : World) : Calls Try.prog 23 #[] w (Yes w) := by
  go_enter Try.func23, Try.ntmps23
  go_wp2_with (go_at_call 24; (with_reducible refine (dpack_ex _ _).mono ?_); rintro e w1 ⟨rfl, hb1⟩)
  go_ret
  exact ⟨rfl, hb1⟩
/-! ### the law -/
theorem packs_long (a : Option Addr) (n cap : Nat) (d : Int) (w : World) (hn : 100 < n) (hm : n ≤ maxLen) : Calls Try.prog 4 #[.slice a n cap, .int .i64 d] w (Yes w) := by
  unfold maxLen at hm
  go_enter Try.func4, Try.ntmps4
  go_wp2_with (go_at_call 23; (with_reducible refine (awake21 _).mono ?_); rintro e w1 ⟨rfl, hb1⟩)
  go_ret
  exact ⟨rfl, hb1⟩
theorem packs_arg (a : Option Addr) (n cap : Nat) (d : Int) (w : World) (hn : n ≤ 100) (hd : ¬ depthOk d) : Calls Try.prog 4 #[.slice a n cap, .int .i64 d] w (Yes w) := by
  have h24 : (d != 24) = true := by rw [bne_iff_ne]; unfold depthOk at hd; omega
  have HP := Lib.hid (fun w0 => dpack_arg d hd a n cap w0)
  have HD := Lib.hid (fun w0 => depth_no d hd w0)
  clear hd
  go_enter Try.func4, Try.ntmps4
  go_wp2_with (first
    | (go_at_call 24; (with_reducible refine (HP.out _).mono ?_); rintro e w1 ⟨rfl, hb1⟩; obtain ⟨hc1, hf1⟩ := bcell hb1)
    | (go_at_call 25; (with_reducible refine (HD.out _).mono ?_); rintro e w2 ⟨rfl, rfl⟩)
    | (go_at_call 23; (with_reducible refine (awake21 _).mono ?_); rintro e w3 ⟨rfl, hb3⟩; obtain ⟨hc3, hf3⟩ := bcell hb3))
  go_ret
  exact ⟨rfl, bthen hb3 hb1 hb1.size⟩
theorem first_bad (l : List Int) (p : Int → Bool) (h : ¬ l.all p = true) : ∃ k, k < l.length ∧ p (l.getD k 0) = false ∧ ∀ j, j < k → p (l.getD j 0) = true := by
  induction l with
  | nil => exact absurd rfl h
  | cons x r ih =>
    by_cases hx : p x = true
    · obtain ⟨k, h1, h2, h3⟩ := ih (by intro hr; exact h (by simp only [List.all_cons, hx, hr]; rfl))
      refine ⟨k + 1, by simp; omega, by simpa using h2, ?_⟩
      intro j hj
      cases j with
      | zero => simpa using hx
      | succ j => simpa using h3 j (by omega)
    · exact ⟨0, by simp, by simpa using hx, fun j hj => by omega⟩
theorem packs_some (l : List Int) (B o cap d : Nat) (w : World) (hB : B < w.heap.size) (hn : l.length ≤ 100) (hd : depthOk d) (hc : ∀ i, i < l.length → w.cell? ⟨B, o + i, none⟩ = some (.int .i64 (l.getD i 0))) :
    Calls Try.prog 4 #[.slice (some ⟨B, o, none⟩) l.length cap, .int .i64 d] w (Yes w) := by
  have HC := Lib.hid hc
  by_cases hall : l.all (goodB d) = true
  · have hg : ∀ i, 0 ≤ l.getD i 0 ∧ l.getD i 0 < 2 ^ d := by
      intro i
      by_cases hi : i < l.length
      · exact (goodB_iff d _).1 (List.all_eq_true.1 hall _ (getD_mem' l i hi))
      · rw [List.getD_eq_getElem?_getD, List.getElem?_eq_none (by omega)]; have := pow_pos' d; simp; omega
    have hpk : packI l d = (rpackI l d, 0) := by rw [packI, if_pos hall, pack_same l d (by unfold depthOk at hd; omega) hg]
    have HG := Lib.hid hg
    have HP := Lib.hid (fun w0 (h : Ints w0 (.slice (some ⟨B, o, none⟩) l.length cap) l) => (dpack_any l _ d w0 h (by omega) hd).mono (R' := fun e w' => e = .returned (.tuple #[.string (rpackI l d), .int .i64 0]) ∧ Below w0.heap.size w0 w') fun e w' hh => by obtain ⟨h1, h2⟩ := hh; rw [hpk] at h1; exact ⟨h1, h2⟩)
    have HQ := Lib.hid (fun w0 (h : Ints w0 (.slice (some ⟨B, o, none⟩) l.length cap) l) => rpack_any l _ d w0 h hn (by unfold depthOk at hd; omega) hg)
    have HD := Lib.hid (fun w0 => depth_yes d hd w0)
    have HW := Lib.hid (fun w0 => power_any d w0 (by omega) (by unfold depthOk at hd; omega))
    have HI := Lib.hid (show ∀ w0, Below w.heap.size w w0 → Ints w0 (.slice (some ⟨B, o, none⟩) l.length cap) l from fun w0 hb => Or.inr ⟨B, o, cap, rfl, Nat.lt_of_lt_of_le hB hb.size, fun i hi => ((bcell hb).1 B (o + i) hB).trans (hc i hi)⟩)
    have hI0 := Lib.hid (HI.out w (Below.refl _ _))
    have h24 : ((d : Int) != 24) = true ∨ ((d : Int) != 24) = false := by cases hb : ((d : Int) != 24) <;> simp
    have hd0 : (d : Int) ≤ 32 := by unfold depthOk at hd; omega
    obtain ⟨RP, hRP⟩ : ∃ r, rpackI l d = r := ⟨_, rfl⟩
    rw [hRP] at HP HQ
    clear hg hpk hall hRP hc hd
    rcases h24 with h24 | h24
    all_goals
      go_enter Try.func4, Try.ntmps4
      go_wp2_with (first
        | (go_at_call 24; (with_reducible refine (HP.out _ hI0.out).mono ?_); rintro e w1 ⟨rfl, hb1⟩; obtain ⟨hc1, hf1⟩ := bcell hb1)
        | (go_at_call 25; (with_reducible refine (HD.out _).mono ?_); rintro e w2 ⟨rfl, rfl⟩))
      have HB1 := Lib.hid hb1
      go_loop [8, 37] (fun v i => ∃ k : Nat, k ≤ l.length ∧ i = .int .i64 k) (fun _ i => l.length - (intOf i).toNat)
      case atStart => exact ⟨0, by omega, rfl⟩
      case round =>
        obtain ⟨k, hk, rfl⟩ := hrel
        by_cases hlt : k < l.length
        · have hck := HC.out k hlt
          obtain ⟨g0, g1⟩ := HG.out k
          have G0 : decide (l.getD k 0 < 0) = false := by rw [decide_eq_false_iff_not]; omega
          have G1 : decide (l.getD k 0 ≥ 2 ^ d) = false := by rw [decide_eq_false_iff_not]; omega
          obtain ⟨x, hx⟩ : ∃ x, l.getD k 0 = x := ⟨_, rfl⟩
          rw [hx] at hck g0 g1 G0 G1
          obtain ⟨P, hP⟩ : ∃ P : Int, 2 ^ d = P := ⟨_, rfl⟩
          have HW' := Lib.hid (fun w0 => (HW.out w0).mono (R' := fun e w' => e = .returned (.int .i64 P) ∧ w0 = w') fun e w' hh => by rw [show ((d : Nat) : Int).toNat = d from rfl, hP] at hh; exact hh)
          rw [hP] at g1 G1
          clear hx hP
          go_wp2_with (go_at_call 17; (with_reducible refine (HW'.out _).mono ?_); rintro e w2 ⟨rfl, rfl⟩)
          go_round
          case rel => exact ⟨k + 1, by omega, by go_num⟩
          case measure => simp [intOf]; omega
        · have hge : l.length ≤ k := by omega
          have hI1 := Lib.hid (HI.out _ HB1.out)
          go_wp2_with (first
            | (go_at_call 26; (with_reducible refine (HQ.out _ hI1.out).mono ?_); rintro e w2 ⟨rfl, hb2⟩)
            | (go_at_call 23; (with_reducible refine (awake21 _).mono ?_); rintro e w3 ⟨rfl, hb3⟩))
          go_ret
          exact ⟨rfl, bthen hb3 (bthen hb2 HB1.out HB1.out.size) (Nat.le_trans HB1.out.size hb2.size)⟩
  · obtain ⟨k, k1, k2, k3⟩ := first_bad l (goodB d) hall
    have hpk : packI l d = (ByteArray.empty, 2) := by rw [packI, if_neg hall]
    have HP := Lib.hid (fun w0 (h : Ints w0 (.slice (some ⟨B, o, none⟩) l.length cap) l) => (dpack_any l _ d w0 h (by omega) hd).mono (R' := fun e w' => e = .returned (.tuple #[.string ByteArray.empty, .int .i64 2]) ∧ Below w0.heap.size w0 w') fun e w' hh => by obtain ⟨h1, h2⟩ := hh; rw [hpk] at h1; exact ⟨h1, h2⟩)
    have HD := Lib.hid (fun w0 => depth_yes d hd w0)
    have HW := Lib.hid (fun w0 => power_any d w0 (by omega) (by unfold depthOk at hd; omega))
    have hI0 := Lib.hid (show Ints w (.slice (some ⟨B, o, none⟩) l.length cap) l from Or.inr ⟨B, o, cap, rfl, hB, hc⟩)
    have h24 : ((d : Int) != 24) = true ∨ ((d : Int) != 24) = false := by cases hb : ((d : Int) != 24) <;> simp
    have hd0 : (d : Int) ≤ 32 := by unfold depthOk at hd; omega
    have K2 := Lib.hid k2
    have K3 := Lib.hid k3
    have hLL : l.length ≤ 100 := hn
    clear hpk hall hc hd k2 k3
    rcases h24 with h24 | h24
    all_goals
      go_enter Try.func4, Try.ntmps4
      go_wp2_with (first
        | (go_at_call 24; (with_reducible refine (HP.out _ hI0.out).mono ?_); rintro e w1 ⟨rfl, hb1⟩; obtain ⟨hc1, hf1⟩ := bcell hb1)
        | (go_at_call 25; (with_reducible refine (HD.out _).mono ?_); rintro e w2 ⟨rfl, rfl⟩))
      have HB1 := Lib.hid hb1
      go_loop [8, 37] (fun v i => ∃ m : Nat, m ≤ k ∧ i = .int .i64 m) (fun _ i => l.length - (intOf i).toNat)
      case atStart => exact ⟨0, by omega, rfl⟩
      case round =>
        obtain ⟨m, hm, rfl⟩ := hrel
        have hck := HC.out m (by omega)
        have hml : m < l.length := by omega
        obtain ⟨P, hP⟩ : ∃ P : Int, 2 ^ d = P := ⟨_, rfl⟩
        have HW' := Lib.hid (fun w0 => (HW.out w0).mono (R' := fun e w' => e = .returned (.int .i64 P) ∧ w0 = w') fun e w' hh => by rw [show ((d : Nat) : Int).toNat = d from rfl, hP] at hh; exact hh)
        by_cases hlt : m < k
        · obtain ⟨g0, g1⟩ := (goodB_iff d _).1 (K3.out m hlt)
          have G0 : decide (l.getD m 0 < 0) = false := by rw [decide_eq_false_iff_not]; omega
          have G1 : decide (l.getD m 0 ≥ 2 ^ d) = false := by rw [decide_eq_false_iff_not]; omega
          obtain ⟨x, hx⟩ : ∃ x, l.getD m 0 = x := ⟨_, rfl⟩
          rw [hx] at hck g0 g1 G0 G1
          rw [hP] at g1 G1
          clear hx hP
          go_wp2_with (go_at_call 17; (with_reducible refine (HW'.out _).mono ?_); rintro e w2 ⟨rfl, rfl⟩)
          go_round
          case rel => exact ⟨m + 1, by omega, by go_num⟩
          case measure => simp [intOf]; omega
        · obtain rfl : m = k := by omega
          have hbad : ¬ (0 ≤ l.getD m 0 ∧ l.getD m 0 < 2 ^ d) := fun h => by have := (goodB_iff d _).2 h; rw [K2.out] at this; cases this
          rw [hP] at hbad
          obtain ⟨x, hx⟩ : ∃ x, l.getD m 0 = x := ⟨_, rfl⟩
          rw [hx] at hck hbad
          clear hx hP
          by_cases hneg : x < 0
          · have G0 : decide (x < 0) = true := by rw [decide_eq_true_iff]; omega
            clear hbad
            go_wp2_with (first | (go_at_call 17; (with_reducible refine (HW'.out _).mono ?_); rintro e w2 ⟨rfl, rfl⟩) | (go_at_call 23; (with_reducible refine (awake21 _).mono ?_); rintro e w3 ⟨rfl, hb3⟩))
            go_ret
            exact ⟨rfl, bthen hb3 HB1.out HB1.out.size⟩
          · have G0 : decide (x < 0) = false := by rw [decide_eq_false_iff_not]; omega
            have G1 : decide (x ≥ P) = true := by rw [decide_eq_true_iff]; omega
            have G2 : P ≤ x := by omega
            clear hbad
            go_wp2_with (first | (go_at_call 17; (with_reducible refine (HW'.out _).mono ?_); rintro e w2 ⟨rfl, rfl⟩) | (go_at_call 23; (with_reducible refine (awake21 _).mono ?_); rintro e w3 ⟨rfl, hb3⟩))
            go_ret
            exact ⟨rfl, bthen hb3 HB1.out HB1.out.size⟩
theorem packs_zero (a : Option Addr) (cap d : Nat) (w : World) (hd : depthOk d) : Calls Try.prog 4 #[.slice a 0 cap, .int .i64 d] w (Yes w) := by
  have HP := Lib.hid (fun w0 => (dpack_nil a cap d hd w0).mono (R' := fun e w' => e = .returned (.tuple #[.string ByteArray.empty, .int .i64 0]) ∧ Below w0.heap.size w0 w') fun e w' hh => hh)
  have hrp : rpackI [] d = ByteArray.empty := by rcases (show d = 1 ∨ d = 4 ∨ d = 8 ∨ d = 16 ∨ d = 24 ∨ d = 32 by unfold depthOk at hd; omega) with rfl | rfl | rfl | rfl | rfl | rfl <;> rfl
  have HQ := Lib.hid (fun w0 => (rpack_nil a cap d (by unfold depthOk at hd; omega) w0).mono (R' := fun e w' => e = .returned (.string ByteArray.empty) ∧ Below w0.heap.size w0 w') fun e w' hh => by rw [hrp] at hh; exact hh)
  have HD := Lib.hid (fun w0 => depth_yes d hd w0)
  have h24 : ((d : Int) != 24) = true ∨ ((d : Int) != 24) = false := by cases hb : ((d : Int) != 24) <;> simp
  clear hd hrp
  rcases h24 with h24 | h24
  all_goals
    go_enter Try.func4, Try.ntmps4
    go_wp2_with (first
      | (go_at_call 24; (with_reducible refine (HP.out _).mono ?_); rintro e w1 ⟨rfl, hb1⟩; obtain ⟨hc1, hf1⟩ := bcell hb1)
      | (go_at_call 25; (with_reducible refine (HD.out _).mono ?_); rintro e w2 ⟨rfl, rfl⟩))
    refine wp_loop_rounds 1 ?_
    rw [rounds_succ]
    go_wp2_with (first
      | (go_at_call 26; (with_reducible refine (HQ.out _).mono ?_); rintro e w2 ⟨rfl, hb2⟩)
      | (go_at_call 23; (with_reducible refine (awake21 _).mono ?_); rintro e w3 ⟨rfl, hb3⟩))
    go_ret
    exact ⟨rfl, bthen hb3 (bthen hb2 hb1 hb1.size) (Nat.le_trans hb1.size hb2.size)⟩
theorem packs_walk (a : Option Addr) (n cap : Nat) (z : List Int) (d : Int) {w : World} (hr : IsRow .i64 w a n cap z) (_ : (Lit.int .i64 d).wf = true) (_ : World) : Calls Try.prog 4 #[.slice a n cap, .int .i64 d] w fun e w' => e = .returned (.bool true) ∧ Below w.heap.size w w' := by
  by_cases hn : n ≤ 100
  · by_cases hd : depthOk d
    · obtain ⟨d, rfl⟩ := Int.eq_ofNat_of_zero_le (show 0 ≤ d by unfold depthOk at hd; omega)
      by_cases h0 : n = 0
      · subst h0; exact packs_zero a cap d w hd
      · rcases hr with ⟨rfl, rfl, rfl, rfl⟩ | ⟨x, rfl, h1, h2, h3, h4, h5⟩
        · exact absurd rfl h0
        · have hx := h4 0 (by omega)
          obtain ⟨B, o, sp⟩ := x
          have hB : B < w.heap.size := World.block_lt_of_cell? w _ hx
          obtain rfl : sp = none := by
            cases sp with
            | none => rfl
            | some q =>
              have h9 := hx
              unfold World.cell? Addr.add at h9
              split at h9 <;> simp at h9
          have hl : (z.take n).length = n := by rw [List.length_take]; omega
          have hc : ∀ i, i < (z.take n).length → w.cell? ⟨B, o + i, none⟩ = some (.int .i64 ((z.take n).getD i 0)) := by
            intro i hi
            rw [hl] at hi
            rw [List.getD_eq_getElem?_getD, List.getElem?_take, if_pos hi, ← List.getD_eq_getElem?_getD]
            have h8 := h4 i (by omega)
            rwa [Addr.add_mid] at h8
          have := packs_some (z.take n) B o cap d w hB (by omega) hd hc
          rw [hl] at this
          exact this
    · exact packs_arg a n cap d w hn hd
  · refine packs_long a n cap d w (by omega) ?_
    rcases hr with ⟨_, h1, _⟩ | ⟨x, _, h1, h2, _⟩
    · unfold maxLen; omega
    · omega
end Go.Proofs.Ytobpocdpnkicnaa

/- The law BitsPlays, walked. -/
import Derived.Test.YtobpocdpnkicnaaC4
namespace Go.Proofs.Ytobpocdpnkicnaa
open Go.RowKit
set_option linter.unusedVariables false
theorem bread_bad (K : Nat) (x : Int) (w : World) (h : x < 0 ∨ 32 < x) : Calls Try.prog 58 #[.pointer (some ⟨K, 0, none⟩), .int .i64 x] w fun e w' => e = .returned (.tuple #[.int .i64 0, .bool false]) ∧ w = w' := by
  rcases h with h | h
  · have G : decide (x < 0) = true := by rw [decide_eq_true_iff]; exact h
    go_enter Try.func58, Try.ntmps58
    go_wp2
    go_ret2
    exact ⟨rfl, rfl⟩
  · have G : decide (x < 0) = false := by rw [decide_eq_false_iff_not]; omega
    have G' : decide (x > 32) = true := by rw [decide_eq_true_iff]; exact h
    go_enter Try.func58, Try.ntmps58
    go_wp2
    go_ret2
    exact ⟨rfl, rfl⟩
theorem bread_end (K X L : Nat) (s : ByteArray) (low : Bool) (t : Nat) (l : Led) (n : Nat) (w : World) (hn : n ≤ 32) (h : BitsAt w K X L s low t l) (ht : t ≤ 8 * s.size) (hf : 8 * s.size < t + n) (hs : s.size ≤ 1000000) : Calls Try.prog 58 #[.pointer (some ⟨K, 0, none⟩), .int .i64 n] w fun e w' =>
      e = .returned (.tuple #[.int .i64 0, .bool false]) ∧ (∃ l', Pair w' X ⟨L, s, 0, s.size, s.size⟩ l') ∧ Chg (three K X L) w w' := by
  refine (bread_any K X L s low t l n w hn h ht hs).mono fun e w' hh => ?_
  rcases hh with ⟨h1, _⟩ | ⟨_, h1, h2, h3⟩
  · omega
  · exact ⟨h1, h2, h3⟩
/-- A piece of the bits, in the midst of them. -/
theorem number_at (P : List Int) (g a len c t n : Nat) (low : Bool) (s : ByteArray) (w : World) (V : Int) (hn : n ≤ 32) (ha : a = t) (hl : len = n) (hc : ∀ i, i < n → w.cell? ⟨g, t + i, none⟩ = some (.int .i64 (bitAt s low (t + i)))) (hg : g < w.heap.size) (hV : joinK s low t n = V) :
    Calls Try.prog 59 #[.slice (some ⟨g, a, none⟩) len c, .bool low] w fun e w' => e = .returned (.int .i64 V) ∧ w = w' := by
  subst ha hl hV
  have := number_any (bitsList s low a len) (.slice (some ⟨g, a, none⟩) len c) low w (Or.inr ⟨g, a, c, by rw [bitsList_len], hg, fun i hi => by
    rw [bitsList_len] at hi; rw [bitsList_get _ _ _ _ _ hi]; exact hc i hi⟩) (by rw [bitsList_len]; omega) (bitsList_bd s low a len)
  rw [numI_bits] at this
  exact this
set_option maxRecDepth 100000 in
theorem plays_long (s : ByteArray) (low : Bool) (v : Value) (w : World) (h : 100 < s.size) (hs : s.size ≤ 9223372036854775807) : Calls Try.prog 13 #[.string s, .bool low, v] w (Yes6 w) := by
  go_enter Try.func13, Try.ntmps13
  go_wp2_with (go_at_call 56; (with_reducible refine (awake6 _).mono ?_); rintro e w1 ⟨rfl, hb⟩)
  go_ret
  exact ⟨rfl, hb⟩
def RowB (w : World) (a : Option Addr) (n : Nat) (z : List Int) : Prop := n = 0 ∨ ∃ B o, a = some ⟨B, o, none⟩ ∧ B < w.heap.size ∧ ∀ i, i < n → w.cell? ⟨B, o + i, none⟩ = some (.int .i64 (z.getD i 0))
set_option maxRecDepth 100000 in
set_option maxHeartbeats 8000000 in
theorem plays_main (s : ByteArray) (low : Bool) (a : Option Addr) (n2 cap2 : Nat) (z : List Int) (w : World) (h : s.size ≤ 100) (hr : RowB w a n2 z) (hn2 : n2 ≤ 9223372036854775807) : Calls Try.prog 13 #[.string s, .bool low, .slice a n2 cap2] w (Yes6 w) := by
  have G0 : decide ((s.size : Int) > 100) = false := by rw [decide_eq_false_iff_not]; omega
  have HR := Lib.hid hr
  clear hr
  go_enter Try.func13, Try.ntmps13
  go_wp2_with fail
  refine (lnew_led 1000 _ (by decide)).mono ?_
  rintro e w1 ⟨L, rfl, hL1, hs1, hC1⟩
  have l0 := hL1.lt
  go_wp2_with fail
  refine (snew_b L s _ _ (by omega) hL1).mono ?_
  rintro e w2 ⟨X, rfl, hP2, hs2, hC2⟩
  have l1 := hP2.src.lt
  have z1 := hC1.size
  have z2 := hC2.size
  have B2 := Lib.hid (hC1.trans (hC2.mono z1))
  have e9 : (Led.new 0 0 0 1000).st + (s.size : Int) ≤ (Led.new 0 0 0 1000).mx := by show (0 : Int) + s.size ≤ 1000; omega
  have HP2 := Lib.hid hP2
  clear hL1 hC1 hC2 hP2
  go_wp2_with fail
  refine (bnew_b X L s low _ _ HP2.out (by rfl) e9).mono ?_
  rintro e w3 ⟨K, rfl, hB3, hs3, hC3⟩
  have l3 := hB3.lt.1
  have z3 := hC3.size
  have HB3 := Lib.hid hB3
  have B3 := Lib.hid (B2.out.trans (hC3.mono (by omega)))
  clear hB3 hC3 HP2 B2
  go_wp2_with fail
  refine (all_any s low w3 h).mono ?_
  rintro e w4 ⟨va, rfl, hown, hC4⟩
  have z4 := hC4.size
  obtain ⟨aa, ca, hva⟩ := owns_shape hown
  have HB4 := Lib.hid (HB3.out.below hC4 l3 (by omega) (by omega))
  have B4 := Lib.hid (B3.out.trans (hC4.mono (by omega)))
  have hcells : 0 < s.size → ∃ g, aa = some ⟨g, 0, none⟩ ∧ 8 * s.size ≤ ca ∧ ca ≤ maxLen ∧ w3.heap.size ≤ g ∧ g < w4.heap.size ∧ ∀ i, i < 8 * s.size → w4.cell? ⟨g, i, none⟩ = some (.int .i64 (bitAt s low i)) := by
    intro hp
    obtain ⟨g, cap, hv, h1, h2, h3, h4⟩ := owns_form hown (by omega)
    rw [hva] at hv
    injection hv with e1 e2 e3
    subst e1 e3
    rw [hva] at hown
    refine ⟨g, rfl, h3, h4, h1, h2, fun i hi => ?_⟩
    refine owns_cell hown i _ ?_
    rw [List.getElem?_map, List.getElem?_eq_getElem (by rw [bitsList_len]; exact hi)]
    have := bitsList_get s low 0 (8 * s.size) i hi
    rw [List.getD_eq_getElem?_getD, List.getElem?_eq_getElem (by rw [bitsList_len]; exact hi), Nat.zero_add] at this
    simp only [Option.getD_some] at this
    rw [Option.map_some, this]
  have HCE := Lib.hid hcells
  obtain ⟨N, hN⟩ : ∃ N, 8 * s.size = N := ⟨_, rfl⟩
  rw [hN] at hva
  rw [hva]
  clear hcells hown hC4 hva HB3 B3 e9
  have hN1 : N ≤ 800 := by omega
  have HN := Lib.hid hN
  go_wp2
  go_loopw [13, 14, 15, 16, 17, 18, 104, 116] (fun q13 q14 q15 q16 q17 q18 q104 q116 wr => ∃ i t : Nat, i ≤ n2 ∧ i ≤ 60 ∧ q14 = .int .i64 i ∧ q13 = .int .i64 t ∧ t ≤ N ∧ BitsAt wr K X L s low t ((Led.new 0 0 0 1000).adv (((t + 7) / 8 : Nat) : Int)) ∧ w4.heap.size ≤ wr.heap.size ∧ (∀ g o, w3.heap.size ≤ g → g < w4.heap.size → wr.cell? ⟨g, o, none⟩ = w4.cell? ⟨g, o, none⟩) ∧ Below w.heap.size w wr) (fun _ q14 _ _ _ _ _ _ _ => 60 - (intOf q14).toNat)
  case atStart => exact ⟨0, 0, by omega, by omega, rfl, rfl, by omega, by have := HB4.out; simpa [Led.adv] using this, Nat.le_refl _, fun _ _ _ _ => rfl, B4.out⟩
  case round =>
    obtain ⟨i, t, hi, hi60, rfl, rfl, ht, hB, hsz, hcl, hb⟩ := hrel
    have HB := Lib.hid hB
    have HCL := Lib.hid hcl
    have Hb := Lib.hid hb
    clear hB hcl hb
    by_cases hin : i < n2 ∧ i < 60
    rotate_left
    · have hfin : (n2 ≤ i) ∨ (i < n2 ∧ 60 ≤ i) := by omega
      clear hin
      rcases hfin with hge | ⟨hlt2, hge⟩
      · go_wp2_with (first
          | (go_at_call 57; (with_reducible refine (bnew_nil _ _).mono ?_); rintro e w8 ⟨rfl, rfl⟩)
          | (go_at_call 56; (with_reducible refine (awake6 _).mono ?_); rintro e w9 ⟨rfl, hb9⟩))
        go_ret
        exact ⟨rfl, bthen hb9 Hb.out Hb.out.size⟩
      · go_wp2_with (first
          | (go_at_call 57; (with_reducible refine (bnew_nil _ _).mono ?_); rintro e w8 ⟨rfl, rfl⟩)
          | (go_at_call 56; (with_reducible refine (awake6 _).mono ?_); rintro e w9 ⟨rfl, hb9⟩))
        go_ret
        exact ⟨rfl, bthen hb9 Hb.out Hb.out.size⟩
    obtain ⟨hi2, hi6⟩ := hin
    obtain ⟨Ba, oa, hA, hBa, hcz⟩ := (show ∃ B o, a = some ⟨B, o, none⟩ ∧ B < w.heap.size ∧ ∀ i, i < n2 → w.cell? ⟨B, o + i, none⟩ = some (.int .i64 (z.getD i 0)) by
      rcases HR.out with h0 | h0
      · omega
      · exact h0)
    rw [hA]
    have hcx := ((bcell Hb.out).1 Ba (oa + i) hBa).trans (hcz i hi2)
    clear hcz hBa
    obtain ⟨x, hx⟩ : ∃ x, z.getD i 0 = x := ⟨_, rfl⟩
    rw [hx] at hcx
    clear hx
    obtain ⟨y, hy⟩ : ∃ y, (8 - t % 8) % 8 = y := ⟨_, rfl⟩
    obtain ⟨p, hp⟩ : ∃ p, (t + 7) / 8 = p := ⟨_, rfl⟩
    have EY : (8 - (t : Int) % 8) % 8 = (y : Int) := by omega
    have HL := Lib.hid (fun w0 (h0 : BitsAt w0 K X L s low t ((Led.new 0 0 0 1000).adv (((t + 7) / 8 : Nat) : Int))) => (bleft_any K X L s low t _ w0 h0).mono (R' := fun e w' => e = .returned (.int .i64 y) ∧ w0 = w') fun e w' hh => by rw [hy] at hh; exact hh)
    by_cases hm1 : x = -1
    · subst hm1
      have HAl := Lib.hid ((balign_any K X L s low t _ wr HB.out).mono (R' := fun e w' => e = .returned (.int .i64 y) ∧ BitsAt w' K X L s low (t + y) ((Led.new 0 0 0 1000).adv (((t + y + 7) / 8 : Nat) : Int)) ∧ Chg (three K X L) wr w') fun e w' hh => by rw [hy] at hh; refine ⟨hh.1, ?_, hh.2.2⟩; rw [show (t + y + 7) / 8 = (t + 7) / 8 by omega]; exact hh.2.1)
      have HYT := Lib.hid (show t + y ≤ N by have := HN.out; omega)
      clear hy hp
      go_wp2_with (first
        | (go_at_call 61; (with_reducible refine (HL.out _ HB.out).mono ?_); rintro e w8 ⟨rfl, rfl⟩)
        | (go_at_call 62; (with_reducible refine (HAl.out).mono ?_); rintro e w8 ⟨rfl, hB8, hC8⟩))
      go_roundw
      case rel => exact ⟨i + 1, t + y, by omega, by omega, by go_num, by go_num, HYT.out, hB8, by have := hC8.size; omega, fun g o hg1 hg2 => (hC8.cell (by omega) (by unfold three; omega)).trans (HCL.out g o hg1 hg2), chg_three Hb.out hC8 (by omega) (by omega) (by omega)⟩
      case measure => simp [intOf]; omega
    have hm : (x == -1) = false := by rw [beq_eq_false_iff_ne]; exact hm1
    by_cases hbad : x < 0 ∨ 32 < x
    · have HRD := Lib.hid (bread_bad K x wr hbad)
      have EP : ((t : Int) + 7) / 8 = (p : Int) := by omega
      have HAT := Lib.hid ((at_any X _ wr HB.out.pair.src).mono (R' := fun e w' => e = .returned (.int .i64 p) ∧ wr = w') fun e w' hh => by rw [← hp]; exact hh)
      have HST := Lib.hid ((steps_any L _ wr HB.out.pair.led).mono (R' := fun e w' => e = .returned (.int .i64 p) ∧ wr = w') fun e w' hh => by rw [← hp]; simpa [Led.adv, Led.new] using hh)
      have HLF := Lib.hid (HL.out wr HB.out)
      clear hy hp hm1
      rcases hbad with hbad | hbad
      · have D0 : decide (x < 0) = true := by rw [decide_eq_true_iff]; exact hbad
        go_wp2_with (first
          | (go_at_call 58; (with_reducible refine (HRD.out).mono ?_); rintro e w8 ⟨rfl, rfl⟩)
          | (go_at_call 61; (with_reducible refine (HLF.out).mono ?_); rintro e w8 ⟨rfl, rfl⟩)
          | (go_at_call 44; (with_reducible refine (HAT.out).mono ?_); rintro e w8 ⟨rfl, rfl⟩)
          | (go_at_call 46; (with_reducible refine (HST.out).mono ?_); rintro e w8 ⟨rfl, rfl⟩))
        go_roundw
        case rel => exact ⟨i + 1, t, by omega, by omega, by go_num, rfl, ht, HB.out, hsz, HCL.out, Hb.out⟩
        case measure => simp [intOf]; omega
      · have D0 : decide (x < 0) = false := by rw [decide_eq_false_iff_not]; omega
        have D1 : decide (x > 32) = true := by rw [decide_eq_true_iff]; exact hbad
        go_wp2_with (first
          | (go_at_call 58; (with_reducible refine (HRD.out).mono ?_); rintro e w8 ⟨rfl, rfl⟩)
          | (go_at_call 61; (with_reducible refine (HLF.out).mono ?_); rintro e w8 ⟨rfl, rfl⟩)
          | (go_at_call 44; (with_reducible refine (HAT.out).mono ?_); rintro e w8 ⟨rfl, rfl⟩)
          | (go_at_call 46; (with_reducible refine (HST.out).mono ?_); rintro e w8 ⟨rfl, rfl⟩))
        go_roundw
        case rel => exact ⟨i + 1, t, by omega, by omega, by go_num, rfl, ht, HB.out, hsz, HCL.out, Hb.out⟩
        case measure => simp [intOf]; omega
    have hx0 : 0 ≤ x := by omega
    have hx32 : x ≤ 32 := by omega
    have D0 : decide (x < 0) = false := by rw [decide_eq_false_iff_not]; omega
    have D1 : decide (x > 32) = false := by rw [decide_eq_false_iff_not]; omega
    clear hbad hm1
    obtain ⟨n, rfl⟩ := Int.eq_ofNat_of_zero_le hx0
    by_cases hend : N < t + n
    · have D2 : decide ((n : Int) > (N : Int) - t) = true := by rw [decide_eq_true_iff]; omega
      have HRD := Lib.hid (bread_end K X L s low t _ n wr (by omega) HB.out (by rw [HN.out]; exact ht) (by rw [HN.out]; exact hend) (by omega))
      clear hy hp
      go_wp2_with (first
        | (go_at_call 58; (with_reducible refine (HRD.out).mono ?_); rintro e w8 ⟨rfl, hP8, hC8⟩))
      obtain ⟨l', hP8⟩ := hP8
      refine ((left_any X _ _ hP8.src).mono (R' := fun e w' => e = .returned (.int .i64 0) ∧ ∃ k, w8.drewN k = w') fun e w' hh => by simpa using hh).mono ?_
      rintro e w9 ⟨rfl, k9, rfl⟩
      go_wp2_with fail
      refine (awake6 _).mono ?_
      rintro e w10 ⟨rfl, hb10⟩
      go_wp2_with fail
      go_ret
      exact ⟨rfl, bthen hb10 (bdrew (chg_three Hb.out hC8 (by omega) (by omega) (by omega)) _) (by rw [drewN_heap]; exact Nat.le_trans Hb.out.size hC8.size)⟩
    have D2 : decide ((n : Int) > (N : Int) - t) = false := by rw [decide_eq_false_iff_not]; omega
    obtain ⟨V, hV⟩ : ∃ V, joinK s low t n = V := ⟨_, rfl⟩
    have ADV := Lib.hid (show ((Led.new 0 0 0 1000).adv (((t + 7) / 8 : Nat) : Int)).adv (((t + n + 7) / 8 - (t + 7) / 8 : Nat) : Int) = (Led.new 0 0 0 1000).adv (((t + n + 7) / 8 : Nat) : Int) by simp only [Led.adv]; congr 1; omega)
    obtain ⟨y', hy'⟩ : ∃ y', (8 - (t + n) % 8) % 8 = y' := ⟨_, rfl⟩
    obtain ⟨p', hp'⟩ : ∃ p', (t + n + 7) / 8 = p' := ⟨_, rfl⟩
    have EY' : (8 - ((t : Int) + n) % 8) % 8 = (y' : Int) := by omega
    have EP' : ((t : Int) + n + 7) / 8 = (p' : Int) := by omega
    obtain ⟨LL, hLL⟩ : ∃ LL, ((Led.new 0 0 0 1000).adv (((t + 7) / 8 : Nat) : Int)).adv (((t + n + 7) / 8 - (t + 7) / 8 : Nat) : Int) = LL := ⟨_, rfl⟩
    have HLS := Lib.hid (show LL.st = (p' : Int) by rw [← hLL, ADV.out, ← hp']; simp [Led.adv, Led.new])
    rw [hLL] at ADV
    have HRD := Lib.hid ((bread_at K X L s low t _ n n V wr rfl (by omega) HB.out (by have := HN.out; omega) (by omega) hV).mono (R' := fun e w' => e = .returned (.tuple #[.int .i64 V, .bool true]) ∧ BitsAt w' K X L s low (t + n) LL ∧ Chg (three K X L) wr w') fun e w' hh => by rw [← hLL]; exact hh)
    have HLF := Lib.hid (fun w0 (h0 : BitsAt w0 K X L s low (t + n) LL) => (bleft_any K X L s low (t + n) _ w0 h0).mono (R' := fun e w' => e = .returned (.int .i64 y') ∧ w0 = w') fun e w' hh => by rw [hy'] at hh; exact hh)
    have HAT := Lib.hid (fun w0 (h0 : BitsAt w0 K X L s low (t + n) LL) => (at_any X _ w0 h0.pair.src).mono (R' := fun e w' => e = .returned (.int .i64 p') ∧ w0 = w') fun e w' hh => by rw [← hp']; exact hh)
    have HST := Lib.hid (fun w0 (h0 : BitsAt w0 K X L s low (t + n) LL) => (steps_any L _ w0 h0.pair.led).mono (R' := fun e w' => e = .returned (.int .i64 p') ∧ w0 = w') fun e w' hh => by rw [HLS.out] at hh; exact hh)
    clear hLL hy' hp' hy hp EY HL
    by_cases hn0 : n = 0
    · have hV0 : V = 0 := by rw [← hV, hn0]; rfl
      have HNM := Lib.hid (fun w0 (_ : Chg (three K X L) wr w0) a len c (hl : len = n) => (show Calls Try.prog 59 #[.slice a len c, .bool low] w0 fun e w' => e = .returned (.int .i64 V) ∧ w0 = w' from by
        rw [hl, hn0, hV0]; exact number_nil a c low w0))
      have hnz : n ≤ 0 := by omega
      have hca : (t : Int) + n ≤ (ca : Int) := by
        by_cases hp : 0 < s.size
        · obtain ⟨g, hg0, hg1, _⟩ := HCE.out hp
          have := HN.out; omega
        · have := HN.out; omega
      clear hV hV0 hn0
      go_wp2_with (first
        | ((go_at_call 58; (with_reducible refine (HRD.out).mono ?_); rintro e w8 ⟨rfl, hB8, hC8⟩); have HB8 := Lib.hid hB8; have HC8 := Lib.hid hC8; have HNX := Lib.hid (HNM.out w8 HC8.out); have HL8 := Lib.hid (HLF.out w8 HB8.out); have HA8 := Lib.hid (HAT.out w8 HB8.out); have HS8 := Lib.hid (HST.out w8 HB8.out); clear hB8 hC8)
        | (go_at_call 59; (with_reducible refine (HNX.out _ _ _ (by first | rfl | omega)).mono ?_); rintro e w9 ⟨rfl, rfl⟩)
        | (go_at_call 61; (with_reducible refine (HL8.out).mono ?_); rintro e w9 ⟨rfl, rfl⟩)
        | (go_at_call 44; (with_reducible refine (HA8.out).mono ?_); rintro e w9 ⟨rfl, rfl⟩)
        | (go_at_call 46; (with_reducible refine (HS8.out).mono ?_); rintro e w9 ⟨rfl, rfl⟩))
      go_roundw
      case rel => exact ⟨i + 1, t + n, by omega, by omega, by go_num, by go_num, by omega, by rw [← ADV.out]; exact HB8.out, by have := HC8.out.size; omega, fun g o hg1 hg2 => (HC8.out.cell (by omega) (by unfold three; omega)).trans (HCL.out g o hg1 hg2), chg_three Hb.out HC8.out (by omega) (by omega) (by omega)⟩
      case measure => simp [intOf]; omega
    · obtain ⟨g, hg0, hg1, hg2, hg3, hg4, hgc⟩ := HCE.out (by have := HN.out; omega)
      subst hg0
      have hcan : ¬ (ca = t) := by have := HN.out; omega
      have hca : (t : Int) + n ≤ (ca : Int) := by have := HN.out; omega
      have HNM := Lib.hid (fun w0 (hc : Chg (three K X L) wr w0) a len c (ha : a = t) (hl : len = n) => number_at [] g a len c t n low s w0 V (by omega) ha hl (fun i hi => ((hc.cell (by omega) (by unfold three; omega)).trans (HCL.out g (t + i) hg3 hg4)).trans (hgc (t + i) (by have := HN.out; omega))) (by have := hc.size; omega) hV)
      unfold maxLen at hg2
      clear hV hgc hg1
      go_wp2_with (first
        | ((go_at_call 58; (with_reducible refine (HRD.out).mono ?_); rintro e w8 ⟨rfl, hB8, hC8⟩); have HB8 := Lib.hid hB8; have HC8 := Lib.hid hC8; have HNX := Lib.hid (HNM.out w8 HC8.out); have HL8 := Lib.hid (HLF.out w8 HB8.out); have HA8 := Lib.hid (HAT.out w8 HB8.out); have HS8 := Lib.hid (HST.out w8 HB8.out); clear hB8 hC8)
        | (go_at_call 59; (with_reducible refine (HNX.out _ _ _ (by first | rfl | omega) (by first | rfl | omega)).mono ?_); rintro e w9 ⟨rfl, rfl⟩)
        | (go_at_call 61; (with_reducible refine (HL8.out).mono ?_); rintro e w9 ⟨rfl, rfl⟩)
        | (go_at_call 44; (with_reducible refine (HA8.out).mono ?_); rintro e w9 ⟨rfl, rfl⟩)
        | (go_at_call 46; (with_reducible refine (HS8.out).mono ?_); rintro e w9 ⟨rfl, rfl⟩))
      go_roundw
      case rel => exact ⟨i + 1, t + n, by omega, by omega, by go_num, by go_num, by omega, by rw [← ADV.out]; exact HB8.out, by have := HC8.out.size; omega, fun g o hg1 hg2 => (HC8.out.cell (by omega) (by unfold three; omega)).trans (HCL.out g o hg1 hg2), chg_three Hb.out HC8.out (by omega) (by omega) (by omega)⟩
      case measure => simp [intOf]; omega
theorem rowB_of {w : World} {a : Option Addr} {n cap : Nat} {z : List Int} (hr : IsRow .i64 w a n cap z) : RowB w a n z ∧ n ≤ maxLen := by
  rcases hr with ⟨rfl, rfl, rfl, rfl⟩ | ⟨x, rfl, h1, h2, h3, h4, h5⟩
  · exact ⟨Or.inl rfl, Nat.zero_le _⟩
  · refine ⟨?_, by omega⟩
    by_cases h0 : n = 0
    · exact Or.inl h0
    · have hx := h4 0 (by omega)
      obtain ⟨B, o, sp⟩ := x
      have hB : B < w.heap.size := World.block_lt_of_cell? w _ hx
      obtain rfl : sp = none := by
        cases sp with
        | none => rfl
        | some q =>
          have h9 := hx
          unfold World.cell? Addr.add at h9
          split at h9 <;> simp at h9
      refine Or.inr ⟨B, o, rfl, hB, fun i hi => ?_⟩
      have h8 := h4 i (by omega)
      rwa [Addr.add_mid] at h8
theorem plays_law (s : ByteArray) (low : Bool) (a : Option Addr) (n cap : Nat) (z : List Int) (hs : s.size ≤ maxLen) {w : World} (hr : IsRow .i64 w a n cap z) (_ : World) : Calls Try.prog 13 #[.string s, .bool low, .slice a n cap] w fun e w' => e = .returned (.bool true) ∧ Below w.heap.size w w' := by
  obtain ⟨h1, h2⟩ := rowB_of hr
  unfold maxLen at hs h2
  by_cases h : 100 < s.size
  · exact plays_long s low _ w h (by omega)
  · exact plays_main s low a n cap z w (by omega) h1 (by omega)
end Go.Proofs.Ytobpocdpnkicnaa

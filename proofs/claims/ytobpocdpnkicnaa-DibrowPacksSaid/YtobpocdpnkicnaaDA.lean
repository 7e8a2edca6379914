/- The reference of layer 21: Pack, walked for whole bytes, and for all depths. -/
import Derived.Test.YtobpocdpnkicnaaD9
namespace Go.Proofs.Ytobpocdpnkicnaa
open Go.RowKit
set_option linter.unusedVariables false
theorem owns_drewN {w : World} {base e n size : Nat} {v : Value} {xs : List Value} (h : w.ownsRow base e size v n xs) (k : Nat) : (w.drewN k).ownsRow base e size v n xs := by
  induction k generalizing w with
  | zero => exact h
  | succ k ih => exact ih h.drew
theorem byteAt_bd (v : Int) (j : Nat) : 0 ≤ byteAt v j ∧ byteAt v j < 256 := by unfold byteAt; omega
set_option maxRecDepth 100000 in
set_option maxHeartbeats 2000000 in
theorem rpack_wide (l : List Int) (B o cap d : Nat) (w : World) (hB : B < w.heap.size) (hd1 : 8 ≤ d) (hd : d ≤ 32) (hd2 : d % 8 = 0) (hn : l.length ≤ 100) (hg : ∀ i, 0 ≤ l.getD i 0 ∧ l.getD i 0 < 2 ^ d) (hc : ∀ i, i < l.length → w.cell? ⟨B, o + i, none⟩ = some (.int .i64 (l.getD i 0))) :
    Calls Try.prog 26 #[.slice (some ⟨B, o, none⟩) l.length cap, .int .i64 d] w fun e w' => e = .returned (.string (rpackI l d)) ∧ Below w.heap.size w w' := by
  have HC := Lib.hid hc
  have HG := Lib.hid hg
  clear hc hg
  have hd8 : decide ((d : Int) < 8) = false := by rw [decide_eq_false_iff_not]; omega
  go_enter Try.func26, Try.ntmps26
  go_wp2
  go_loopw [5, 6, 8, 9, 10] (fun v i q8 q9 q10 wr => ∃ k : Nat, k ≤ l.length ∧ i = .int .i64 k ∧ wr.ownsRow w.heap.size 3 1 v (bitsAcc l d k).length ((bitsAcc l d k).map (.int .i64)) ∧ Below w.heap.size w wr) (fun _ i _ _ _ _ => l.length - (intOf i).toNat)
  case atStart => exact ⟨0, by omega, rfl, owns_empty w _, (Below.refl _ _).alloc (Nat.le_refl _) _⟩
  case round =>
    obtain ⟨k, hk, rfl, hown, hb⟩ := hrel
    have hOwn := Lib.hid hown
    have hb' := Lib.hid hb
    have hsz := hb.size
    clear hown hb
    by_cases hlt : k < l.length
    · have hBLEN : (bitsAcc l d k).length ≤ 3200 := by
        rw [bitsAcc_len, show rowLen d = d by unfold rowLen; rw [if_pos (by omega)]; omega]
        have : k * d ≤ 100 * 32 := Nat.mul_le_mul (by omega) (by omega)
        omega
      obtain ⟨g0, g1⟩ := HG.out k
      have hx9 : l.getD k 0 < 4294967296 := by
        have h9 := pow_le' (show d ≤ 32 by omega)
        have h10 : (2 : Int) ^ 32 = 4294967296 := by decide
        omega
      obtain ⟨x, hx⟩ : ∃ x, l.getD k 0 = x := ⟨_, rfl⟩
      rw [hx] at g0 hx9
      have HX := Lib.hid hx
      clear hx g1
      go_wp2
      obtain ⟨wo, rfl⟩ : ∃ wo : World, wo = wr := ⟨_, rfl⟩
      go_loopw [5, 8, 9, 10] (fun v i q9 q10 wr => ∃ j : Nat, j ≤ d / 8 ∧ i = .int .i64 j ∧ wr.ownsRow w.heap.size 3 1 v (bitsAcc l d k ++ wideF x j).length ((bitsAcc l d k ++ wideF x j).map (.int .i64)) ∧ Below w.heap.size w wr) (fun _ i _ _ _ => d / 8 - (intOf i).toNat)
      case atStart => exact ⟨0, by omega, rfl, by simpa [wideF] using hOwn.out, hb'.out⟩
      case round =>
        obtain ⟨j, hj, rfl, hown, hb⟩ := hrel
        have hOwn2 := Lib.hid hown
        have hb2 := Lib.hid hb
        have hsz2 := hb.size
        clear hown hb
        by_cases hjl : j < d / 8
        · have hck2 := ((bcell hb2.out).1 B (o + k) hB).trans (HC.out k hlt)
          rw [HX.out] at hck2
          have p0 := pow_pos' (8 * j)
          have hP9 := pow_le' (show 8 * j ≤ 32 by omega)
          obtain ⟨P, hP⟩ : ∃ P : Int, 2 ^ (8 * j) = P := ⟨_, rfl⟩
          rw [hP] at p0 hP9
          have HPW := Lib.hid (fun (z : Int) (hz : z = 8 * (j : Int)) w0 => (power_any z w0 (by omega) (by omega)).mono (R' := fun e w' => e = .returned (.int .i64 P) ∧ w' = w0) fun e w' hh => by subst hz; rw [show (8 * (j : Int)).toNat = 8 * j by omega, hP] at hh; exact ⟨hh.1, hh.2.symm⟩)
          have HP := Lib.hid hP
          clear hP
          obtain ⟨q, hq0, hq1, hq⟩ : ∃ q : Int, 0 ≤ q ∧ q < 5000000000 ∧ x / P = q := by
            have h1 := Int.ediv_le_self P g0
            exact ⟨_, Int.ediv_nonneg g0 (by omega), by omega, rfl⟩
          have HQ := Lib.hid hq
          have e1 : ¬ (P = 0) := by omega
          have e2 : IntKind.i64.wrap (x.tdiv P) = q := by rw [IntWalk.i64_quo _ _ ⟨g0, by omega, by omega⟩, hq]
          have e3 : IntKind.i64.wrap (q.tmod 256) = q % 256 := by rw [IntWalk.rem_in _ _ hq0]; exact i64_wrap_id _ (by omega) (by omega)
          have HBV := Lib.hid (show byteAt x j = q % 256 by unfold byteAt; rw [HP.out, hq])
          have e4 : IntKind.i64.wrap (8 * (j : Int)) = 8 * (j : Int) := i64_wrap_id _ (by omega) (by omega)
          clear hq
          have hin0 : (0 : Int) ≤ (k : Int) := by omega
          have hin1 : (k : Int) < (l.length : Int) := by omega
          have t1 : decide ((j : Int) < (d : Int) / 8) = true := by rw [decide_eq_true_iff]; omega
          have t2 : decide (j < d / 8) = true := by rw [decide_eq_true_iff]; omega
          go_wp2
          go_quiet (((go_at_call 17; exact Calls.quiet_of_same (HPW.out _ (by first | rfl | omega) _))))
          clear e1 e2 e3 e4
          go_wp2
          obtain ⟨bv, hbv⟩ : ∃ bv : Int, q % 256 = bv := ⟨_, rfl⟩
          have b0 : 0 ≤ bv := by omega
          have b1 : bv < 256 := by omega
          obtain ⟨wi, hwi⟩ : ∃ wi : World, wr.drewN nq = wi := ⟨_, rfl⟩
          have hOwnI := Lib.hid (show wi.ownsRow w.heap.size 3 1 u5 (bitsAcc l d k ++ wideF x j).length ((bitsAcc l d k ++ wideF x j).map (.int .i64)) by rw [← hwi]; exact owns_drewN hOwn2.out nq)
          have hbI := Lib.hid (show Below w.heap.size w wi by rw [← hwi]; exact bdrew hb2.out nq)
          rw [hbv] at HBV
          rw [hwi, hbv]
          clear hwi hbv
          go_loopw [5, 10] (fun v z wr => ∃ i : Nat, i ≤ 8 ∧ z = .int .i64 (7 - (i : Int)) ∧ wr.ownsRow w.heap.size 3 1 v (bitsAcc l d k ++ wideF x j ++ msbF bv 8 i).length ((bitsAcc l d k ++ wideF x j ++ msbF bv 8 i).map (.int .i64)) ∧ Below w.heap.size w wr) (fun _ z _ => (intOf z + 1).toNat)
          case atStart => exact ⟨0, by omega, rfl, by simpa [msbF] using hOwnI.out, hbI.out⟩
          case round =>
            obtain ⟨i, hi, rfl, hown, hb⟩ := hrel
            have hOwn3 := Lib.hid hown
            have hb3 := Lib.hid hb
            have hsz3 := hb.size
            have hlen : (bitsAcc l d k ++ wideF x j ++ msbF bv 8 i).length ≤ 3300 := by
              rw [List.length_append, List.length_append, wideF_len, msbF_len]; omega
            clear hown hb hck2
            by_cases hil : i < 8
            · have p0' := pow_pos' (7 - i)
              have hP9' := pow_le' (show 7 - i ≤ 8 by omega)
              obtain ⟨R, hR⟩ : ∃ R : Int, 2 ^ (7 - i) = R := ⟨_, rfl⟩
              rw [hR] at p0' hP9'
              have HPR := Lib.hid (fun w0 => (power_any (7 - (i : Int)) w0 (by omega) (by omega)).mono (R' := fun e w' => e = .returned (.int .i64 R) ∧ w0 = w') fun e w' hh => by rw [show (7 - (i : Int)).toNat = 7 - i by omega, hR] at hh; exact hh)
              have HR7 := Lib.hid (show (2 : Int) ^ (8 - 1 - i) = R from hR)
              clear hR
              obtain ⟨q', hq0', hq1', hq'⟩ : ∃ q : Int, 0 ≤ q ∧ q < 1000 ∧ bv / R = q := by
                have h1 := Int.ediv_le_self R b0
                exact ⟨_, Int.ediv_nonneg b0 (by omega), by omega, rfl⟩
              have HQ' := Lib.hid hq'
              have e1 : ¬ (R = 0) := by omega
              have e2 : bv / R = q' := hq'
              clear hq' hP9'
              go_wp2_with (first
                | (go_at_call 17; (with_reducible refine (HPR.out _).mono ?_); rintro e w1 ⟨rfl, rfl⟩)
                | (at_builtin; refine app1 rfl (.tmp 58) (.tmp 64) 22 rfl w.heap.size 3 (.int .i64 0) 8 Try.underlying22 (by kernel_rfl) rfl _ _ _ rfl hOwn3.out _ rfl _ rfl (by omega) (by unfold maxLen; omega) hsz3 ?_; intro v' w1 hown1 hB1 hz1; have O1 := Lib.hid hown1; have B1 := Lib.hid hB1; clear hown1 hB1))
              go_roundw
              case rel => exact ⟨i + 1, by omega, by go_num, owns_eq O1.out (by simp [msbF_succ]; omega) (by rw [msbF_succ, ← List.append_assoc, List.map_append (l₁ := bitsAcc l d k ++ wideF x j ++ msbF bv 8 i), HR7.out, HQ'.out]; rfl), B1.out w hb3.out⟩
              case measure => simp [intOf]; omega
            · have hi2 : i = 8 := by omega
              go_wp2
              go_roundw
              case rel => exact ⟨j + 1, by omega, by go_num, owns_eq hOwn3.out (by rw [wideF_succ, HBV.out, hi2, List.append_assoc]) (by rw [wideF_succ, HBV.out, hi2, List.append_assoc]), hb3.out⟩
              case measure => simp [intOf]; omega
        · have hj2 : j = d / 8 := by omega
          go_wp2
          go_roundw
          case rel => exact ⟨k + 1, by omega, by go_num, owns_eq hOwn2.out (by rw [bitsAcc_succ, HX.out, rowBits, if_pos (by omega), hj2]) (by rw [bitsAcc_succ, HX.out, rowBits, if_pos (by omega), hj2]), hb2.out⟩
          case measure => simp [intOf]; omega
    · have hge : k = l.length := by omega
      subst hge
      obtain ⟨L, hL⟩ : ∃ L, bitsAcc l d l.length = L := ⟨_, rfl⟩
      have hLb : ∀ x ∈ padBits L, 0 ≤ x ∧ x ≤ 1 := by rw [← hL]; exact padBits_bits _ _ _
      have hLn : L.length ≤ 3200 := by rw [← hL, bitsAcc_len]; exact (by rw [show rowLen d = d by unfold rowLen; rw [if_pos (by omega)]; omega]; have : l.length * d ≤ 100 * 32 := Nat.mul_le_mul (by omega) (by omega); omega)
      have HR := Lib.hid (show rpackI l d = strOf (outF (padBits L) ((padBits L).length / 8)) by rw [← hL]; rfl)
      rw [hL] at hOwn
      have HLb := Lib.hid hLb
      clear hL hLb
      go_wp2
      obtain ⟨wo, rfl⟩ : ∃ wo : World, wo = wr := ⟨_, rfl⟩
      go_loopw [5] (fun v wr => ∃ j : Nat, j ≤ (32 - L.length % 32) % 32 ∧ wr.ownsRow w.heap.size 3 1 v (L ++ List.replicate j 0).length ((L ++ List.replicate j 0).map (.int .i64)) ∧ Below w.heap.size w wr) (fun v _ => L.length + 32 - slLen v)
      case atStart => exact ⟨0, by omega, by simpa using hOwn.out, hb'.out⟩
      case round =>
        obtain ⟨j, hj, hown, hb⟩ := hrel
        have hOwn2 := Lib.hid hown
        have hb2 := Lib.hid hb
        have hsz2 := hb.size
        obtain ⟨a, cp, hv⟩ := owns_shape hown
        obtain ⟨N, hN⟩ : ∃ N, (L ++ List.replicate j 0).length = N := ⟨_, rfl⟩
        have hNj : N = L.length + j := by rw [← hN]; simp
        have NJ := Lib.hid hNj
        have hN2 : N ≤ 3300 := by omega
        rw [hN] at hv hOwn2
        rw [hv] at hOwn2
        rw [hv]
        clear hown hb hN
        by_cases hm : N % 32 = 0
        · have ht : ((N : Int) % 32 != 0) = false := by rw [bne_eq_false_iff_eq]; omega
          have PD := padBits_done L j hj (by omega)
          rw [PD] at hOwn2
          have hPN : (padBits L).length = N := by rw [← PD]; simp; omega
          obtain ⟨PB, hPB⟩ : ∃ PB, padBits L = PB := ⟨_, rfl⟩
          rw [hPB] at hOwn2 HLb HR hPN
          rw [← hPN] at hOwn2 hN2 hm ht
          have hv' := Lib.hid hv
          rw [← hPN]
          clear hNj PD hPB hPN hj hv NJ
          go_wp2
          obtain ⟨wq, rfl⟩ : ∃ wq : World, wq = wr := ⟨_, rfl⟩
          go_loopw [11, 12] (fun v i wr => ∃ m : Nat, 8 * m ≤ PB.length ∧ i = .int .i64 ((8 * m : Nat) : Int) ∧ wr.ownsRow wq.heap.size 5 1 v (outF PB m).length ((outF PB m).map (.int .u8)) ∧ Below wq.heap.size wq wr) (fun _ i _ => PB.length - (intOf i).toNat)
          case atStart => exact ⟨0, by omega, rfl, owns_empty wq _, (Below.refl _ _).alloc (Nat.le_refl _) _⟩
          case round =>
            obtain ⟨m, hm8, rfl, hown3, hb3⟩ := hrel
            have hOwn3 := Lib.hid hown3
            have hB3 := Lib.hid hb3
            have hsz3 := hb3.size
            have hol : (outF PB m).length ≤ 3300 := by rw [outF_len]; omega
            have hcv := owns_string (P := Try.prog) hown3 86 9 5 Try.underlying86 Try.underlying5 Try.underlying9
            clear hown3 hb3
            by_cases hlt8 : 8 * m < PB.length
            · obtain ⟨g, cap2, hv2, hcap, hcapm, hg, hcells⟩ := owns_ints hOwn2.out (by omega)
              injection hv2 with hv2 hv3 hv4
              subst hv2 hv4
              have hm88 : 8 * m + 8 ≤ PB.length := by omega
              have HX0 := numI8_bd PB HLb.out m
              obtain ⟨X, hX⟩ : ∃ X, numI ((PB.drop (8 * m)).take 8) false = X := ⟨_, rfl⟩
              rw [hX] at HX0
              obtain ⟨x0, x1⟩ := HX0
              have HN8 := Lib.hid (fun a c w0 (ha : a = 8 * m) (hc : ∀ i, i < PB.length → w0.cell? ⟨g, i, none⟩ = some (.int .i64 (PB.getD i 0))) => number8 PB HLb.out g a c m w0 hm88 ha hc X hX)
              have HC8 := Lib.hid (fun i (hi : i < PB.length) => ((bcell hB3.out).1 g i hg).trans (hcells i hi))
              have HX := Lib.hid hX
              have hw : IntKind.u8.wrap X = X := by rw [IntKind.wrap_u8]; omega
              clear hX hcells hcv
              unfold maxLen at hcapm
              go_wp2_with (first
                | (go_at_call 59; (with_reducible refine (HN8.out _ _ _ (by first | rfl | omega | (simp; done)) HC8.out).mono ?_); rintro e w1 ⟨rfl, rfl⟩)
                | (at_builtin; refine app1 rfl (.tmp 80) (.tmp 88) 86 rfl wq.heap.size 5 (.int .u8 0) 1 Try.underlying86 (by kernel_rfl) rfl _ _ _ rfl hOwn3.out _ rfl _ rfl (by omega) (by unfold maxLen; omega) hsz3 ?_; intro v' w1 hown1 hB1 hz1; have O1 := Lib.hid hown1; have B1 := Lib.hid hB1; clear hown1 hB1))
              go_roundw
              case rel => exact ⟨m + 1, by omega, by go_num, owns_eq O1.out (by simp [outF_succ]) (by rw [outF_succ, HX.out, List.map_append]; rfl), B1.out _ hB3.out⟩
              case measure => simp [intOf]; omega
            · have HM := Lib.hid (show m = PB.length / 8 by omega)
              go_wp2
              go_ret
              exact ⟨ret_str (by rw [HR.out, HM.out]), hb2.out.trans (hB3.out.mono hsz2)⟩
        · have ht : ((N : Int) % 32 != 0) = true := by rw [bne_iff_ne]; omega
          clear hNj
          go_wp2_with (at_builtin; refine app1 rfl (.tmp 70) (.tmp 71) 22 rfl w.heap.size 3 (.int .i64 0) 8 Try.underlying22 (by kernel_rfl) rfl _ _ _ rfl hOwn2.out _ rfl _ rfl (by omega) (by unfold maxLen; omega) hsz2 ?_; intro v' w1 hown1 hB1 hz1; have O1 := Lib.hid hown1; have B1 := Lib.hid hB1; clear hown1 hB1)
          go_roundw
          case rel => exact ⟨j + 1, by have := NJ.out; omega, owns_eq O1.out (by have := NJ.out; simp; omega) (by rw [List.replicate_succ']; simp), B1.out w hb2.out⟩
          case measure =>
            have h1 := owns_shape O1.out
            obtain ⟨a', cp', hv'⟩ := h1
            have := NJ.out
            rw [hv']; simp only [slLen]; omega
set_option maxHeartbeats 1000000 in
theorem rpack_nil (a : Option Addr) (cap : Nat) (d : Nat) (hd : d = 1 ∨ d = 4 ∨ d = 8 ∨ d = 16 ∨ d = 24 ∨ d = 32) (w : World) : Calls Try.prog 26 #[.slice a 0 cap, .int .i64 d] w fun e w' => e = .returned (.string (rpackI [] d)) ∧ Below w.heap.size w w' := by
  have HR := Lib.hid (show rpackI [] d = ByteArray.empty by rcases hd with rfl | rfl | rfl | rfl | rfl | rfl <;> rfl)
  have hcv := fun W g n c => run_convert_bytes_string (P := Try.prog) W 86 9 5 (some g) n c Try.underlying86 Try.underlying5 Try.underlying9
  have hcw : ∀ W g c, (convert 86 9 (.slice (some g) 0 c)).run Try.prog W = .ok (.string ByteArray.empty) W := fun W g c => (hcv W g 0 c).trans (run_bytesToString W g 0 c [] rfl)
  clear hcv hd
  go_enter Try.func26, Try.ntmps26
  go_wp2
  go_rounds 1
  go_rounds 1
  go_rounds 1
  go_ret
  exact ⟨ret_str HR.out.symm, ((Below.refl _ _).alloc (Nat.le_refl _) _).alloc (by simp) _⟩
theorem rpack_any (l : List Int) (s : Value) (d : Nat) (w : World) (hs : Ints w s l) (hn : l.length ≤ 100) (hd : d = 1 ∨ d = 4 ∨ d = 8 ∨ d = 16 ∨ d = 24 ∨ d = 32) (hg : ∀ i, 0 ≤ l.getD i 0 ∧ l.getD i 0 < 2 ^ d) :
    Calls Try.prog 26 #[s, .int .i64 d] w fun e w' => e = .returned (.string (rpackI l d)) ∧ Below w.heap.size w w' := by
  rcases hs with ⟨a, cap, rfl, rfl⟩ | ⟨B, o, cap, rfl, hB, hc⟩
  · exact rpack_nil a cap d hd w
  · by_cases h : d < 8
    · exact rpack_narrow l B o cap d w hB (by omega) h hn hg hc
    · exact rpack_wide l B o cap d w hB (by omega) (by omega) (by omega) hn hg hc
end Go.Proofs.Ytobpocdpnkicnaa

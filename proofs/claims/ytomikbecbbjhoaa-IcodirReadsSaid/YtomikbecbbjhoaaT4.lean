/- The reference of layer 16: Read, walked. -/
import Derived.Test.YtomikbecbbjhoaaT3
import Derived.Deep.RegionHeld3
import Derived.Test.YtomikbecbbjhoaaLT
namespace Go.Proofs.Ytomikbecbbjhoaa
open Go.RowKit
set_option linter.unusedVariables false
set_option linter.unusedSimpArgs false
def rBad16 (k a : Int) : List Value := [.int .i64 0, .int .i64 0, .int .i64 0, .int .i64 0, .int .i64 0, .int .i64 0, .int .i64 0, .int .i64 0, .int .i64 0, .int .i64 0, .bool false, .bool false, .int .i64 k, .int .i64 a]
def R16 (w : World) (L : List Value) (e : Ending) (w' : World) : Prop := e = .returned (.agg L.toArray) ∧ Below w.heap.size w w'
set_option maxRecDepth 100000 in
theorem rbad16_any (k a : Int) (w : World) : Calls Try.prog 74 #[.int .i64 k, .int .i64 a] w (R16 w (rBad16 k a)) := by
  have HB := Lib.hid (fun cs => (Below.refl w.heap.size w).alloc (Nat.le_refl _) (.cells cs 50))
  go_enter Try.func74, Try.ntmps74
  go_wp2_with (refine store_o rfl 50 14 _ _ rfl w.heap.size (rBad16 k a) rfl rfl rfl rfl (by kernel_rfl) (obj1_new _ _ _) rfl ?_; intro w2 hst hO; have HO := Lib.hid hO; have B := Lib.hid (hst.below (HB.out _) (Nat.le_refl _)); clear hst hO)
  refine bodyPost_ret (v := .agg (rBad16 k a).toArray) ?_ rfl ⟨rfl, B.out⟩
  exact results_c Try.results74 _ _ _ (rBad16 k a) _ rfl HO.out.range0 Try.underlying50 rfl (by kernel_rfl)
def rHead16 (s : ByteArray) : List Value :=
  [.int .i64 (byN s 0), .int .i64 (byN s 1), .int .i64 (byN s 2), .int .i64 (if (byN s 1 == 1) = true then wordN s 3 else 0), .int .i64 (if (byN s 1 == 1) = true then wordN s 5 else 0), .int .i64 (if (byN s 1 == 1) = true then byN s 7 else 0),
    .int .i64 (wordN s 12), .int .i64 (wordN s 14), .int .i64 (byN s 16), .int .i64 (byN s 17 % 16), .bool (byN s 17 / 16 % 2 == 1), .bool (byN s 17 / 32 % 2 == 1), .int .i64 0, .int .i64 0]
def rRes16 (s : ByteArray) : List Value := if s.size < 18 then rBad16 1 s.size else match (chkS s).first with | some p => rBad16 p.1 p.2 | none => rHead16 s
theorem lo_word (s : ByteArray) (a : Nat) (h : a + 2 ≤ s.size) : loK (s.extract a (a + 2)) 2 = wordN s a := by
  unfold wordN loK loK loK
  rw [byN_ext s a (a + 2) 0 (by omega) h, byN_ext s a (a + 2) 1 (by omega) h]
  simp
theorem le_word (s : ByteArray) (a : Nat) (V : Int) (w : World) (h : a + 2 ≤ s.size) (hV : wordN s a = V) : Calls Try.prog 45 #[.string (s.extract a (a + 2))] w fun e w' => e = .returned (.int .i64 V) ∧ w' = w := by
  have hz : (s.extract a (a + 2)).size = 2 := by rw [ByteArray.size_extract]; omega
  refine (rle_any (s.extract a (a + 2)) w (by omega)).mono ?_
  rintro e w' ⟨rfl, rfl⟩
  exact ⟨ret_i (by rw [hz, lo_word s a h, hV]), rfl⟩
def resOf (o : Option (Int × Int)) (H : List Value) : List Value := match o with | some p => rBad16 p.1 p.2 | none => H
theorem resOf_if (b : Bool) (p : Int × Int) (o : Option (Int × Int)) (H : List Value) : resOf (if b = true then some p else o) H = bif b then rBad16 p.1 p.2 else resOf o H := by cases b <;> rfl
theorem rRes16_eq (s : ByteArray) (h : ¬ s.size < 18) : rRes16 s = (bif decide (1 < byN s 1) then rBad16 2 1 else bif !knownB (byN s 2) then rBad16 3 2 else bif (plainI (byN s 2) == 1) && !(byN s 1 == 1) then rBad16 2 1 else
    bif (byN s 1 == 1) && !colB (byN s 7) then rBad16 3 7 else bif (byN s 1 == 1) && wordN s 5 == 0 then rBad16 2 5 else bif wordN s 12 == 0 then rBad16 2 12 else bif decide (16384 < wordN s 12) then rBad16 3 12 else
    bif wordN s 14 == 0 then rBad16 2 14 else bif decide (16384 < wordN s 14) then rBad16 3 14 else bif !depB (byN s 2) (byN s 16) then rBad16 3 16 else bif byN s 17 / 64 != 0 then rBad16 3 17 else bif !alpB (byN s 16) (bits .and .i64 (byN s 17) 15) then rBad16 2 17 else rHead16 s) := by
  have : rRes16 s = resOf (chkS s).first (rHead16 s) := by unfold rRes16 resOf; rw [if_neg h]
  rw [this]
  simp only [Chk.first, Chk.from, resOf_if]
  rfl
theorem le_word' (s : ByteArray) (a b : Nat) (V : Int) (w : World) (hb : b = a + 2) (h : a + 2 ≤ s.size) (hV : wordN s a = V) : Calls Try.prog 45 #[.string (s.extract a b)] w fun e w' => e = .returned (.int .i64 V) ∧ w' = w := by
  subst hb; exact le_word s a V w h hV
set_option maxRecDepth 100000 in
set_option maxHeartbeats 8000000 in
theorem rread16_any (s : ByteArray) (w : World) (hs : s.size ≤ 9223372036854775807) : Calls Try.prog 32 #[.string s] w (R16 w (rRes16 s)) := by
  have HBD := Lib.hid (fun k a w0 => rbad16_any k a w0)
  have OR0 := Lib.hid (fun cs => obj1_new w cs 50)
  have BR0 := Lib.hid (fun cs => (Below.refl w.heap.size w).alloc (Nat.le_refl _) (.cells cs 50))
  by_cases h : s.size < 18
  · have D0 : decide ((s.size : Int) < 18) = true := by rw [decide_eq_true_iff]; omega
    have E := Lib.hid (show rRes16 s = rBad16 1 s.size by unfold rRes16; rw [if_pos h])
    go_enter Try.func32, Try.ntmps32
    go_wp2_with (first
      | (go_at_call 74; (with_reducible refine (HBD.out _ _ _).mono ?_); rintro e w2 ⟨rfl, hb2⟩)
      | (refine store_o rfl 50 14 _ _ rfl w.heap.size (rBad16 1 s.size) rfl rfl rfl rfl (by kernel_rfl) ((OR0.out _).below hb2 (by simp)) rfl ?_; intro w3 hst hO; have HO := Lib.hid hO; have B := Lib.hid (hst.below (bthen hb2 (BR0.out _) (by simp)) (Nat.le_refl _)); clear hst hO; refine gen_frame 2 (.pointer (some ⟨w.heap.size, 0, none⟩)) (by kernel_rfl) (by kernel_rfl) ?_; intro A hA hAd))
    refine bodyPost_ret (v := .agg (rBad16 1 s.size).toArray) ?_ hAd ⟨by rw [E.out], B.out⟩
    exact results_c Try.results32 _ _ _ (rBad16 1 s.size) _ hA HO.out.range0 Try.underlying50 rfl (by kernel_rfl)
  have D0 : decide ((s.size : Int) < 18) = false := by rw [decide_eq_false_iff_not]; omega
  have E0 := rRes16_eq s h
  have h18 : 18 ≤ s.size := by omega
  have b1 := byN_bd s 1
  have b2 := byN_bd s 2
  have b7 := byN_bd s 7
  have b16 := byN_bd s 16
  have b17 := byN_bd s 17
  have b0 := byN_bd s 0
  rw [known_eq _ b2.1, mapped_eq, depB_eq, show bits .and .i64 (byN s 17) 15 = byN s 17 % 16 from i64_and_mask (byN s 17) 4 (by decide)] at E0
  unfold rHead16 at E0
  have i0 : 0 < s.size := by omega
  have i1 : 1 < s.size := by omega
  have i2 : 2 < s.size := by omega
  have i7 : 7 < s.size := by omega
  have i16 : 16 < s.size := by omega
  have i17 : 17 < s.size := by omega
  obtain ⟨x0, hx0⟩ : ∃ x, byN s 0 = x := ⟨_, rfl⟩
  obtain ⟨x1, hx1⟩ : ∃ x, byN s 1 = x := ⟨_, rfl⟩
  obtain ⟨t, ht⟩ : ∃ x, byN s 2 = x := ⟨_, rfl⟩
  obtain ⟨x7, hx7⟩ : ∃ x, byN s 7 = x := ⟨_, rfl⟩
  obtain ⟨n, hn⟩ : ∃ x, byN s 16 = x := ⟨_, rfl⟩
  obtain ⟨f, hf⟩ : ∃ x, byN s 17 = x := ⟨_, rfl⟩
  obtain ⟨FI, hFI⟩ : ∃ x, wordN s 3 = x := ⟨_, rfl⟩
  obtain ⟨C, hC⟩ : ∃ x, wordN s 5 = x := ⟨_, rfl⟩
  obtain ⟨W, hW⟩ : ∃ x, wordN s 12 = x := ⟨_, rfl⟩
  obtain ⟨H, hH⟩ : ∃ x, wordN s 14 = x := ⟨_, rfl⟩
  have g0 : ((s[0]).toNat : Int) = x0 := hx0 ▸ byN_get s 0 i0
  have g1 : ((s[1]).toNat : Int) = x1 := hx1 ▸ byN_get s 1 i1
  have g2 : ((s[2]).toNat : Int) = t := ht ▸ byN_get s 2 i2
  have g7 : ((s[7]).toNat : Int) = x7 := hx7 ▸ byN_get s 7 i7
  have g16 : ((s[16]).toNat : Int) = n := hn ▸ byN_get s 16 i16
  have g17 : ((s[17]).toNat : Int) = f := hf ▸ byN_get s 17 i17
  have HL3 := Lib.hid (fun w0 => le_word' s 3 5 FI w0 rfl (by omega) hFI)
  have HL5 := Lib.hid (fun w0 => le_word' s 5 7 C w0 rfl (by omega) hC)
  have HL12 := Lib.hid (fun w0 => le_word' s 12 14 W w0 rfl (by omega) hW)
  have HL14 := Lib.hid (fun w0 => le_word' s 14 16 H w0 rfl (by omega) hH)
  rw [hx0, hx1, ht, hx7, hn, hf, hFI, hC, hW, hH] at E0
  rw [hx0] at b0
  rw [hx1] at b1
  rw [ht] at b2
  rw [hx7] at b7
  rw [hn] at b16
  rw [hf] at b17
  obtain ⟨m1, e1⟩ : ∃ b, (t == 1) = b := ⟨_, rfl⟩
  obtain ⟨m9, e9⟩ : ∃ b, (t == 9) = b := ⟨_, rfl⟩
  obtain ⟨m2, e2⟩ : ∃ b, (t == 2) = b := ⟨_, rfl⟩
  obtain ⟨m10, e10⟩ : ∃ b, (t == 10) = b := ⟨_, rfl⟩
  obtain ⟨m3, e3⟩ : ∃ b, (t == 3) = b := ⟨_, rfl⟩
  obtain ⟨m11, e11⟩ : ∃ b, (t == 11) = b := ⟨_, rfl⟩
  have f1 : (t != 1) = !m1 := by rw [← e1]; rfl
  have f2 : (t != 2) = !m2 := by rw [← e2]; rfl
  have f3 : (t != 3) = !m3 := by rw [← e3]; rfl
  have f9 : (t != 9) = !m9 := by rw [← e9]; rfl
  have f10 : (t != 10) = !m10 := by rw [← e10]; rfl
  have f11 : (t != 11) = !m11 := by rw [← e11]; rfl
  obtain ⟨th, eth⟩ : ∃ b, (x1 == 1) = b := ⟨_, rfl⟩
  obtain ⟨n8, en8⟩ : ∃ b, (n == 8) = b := ⟨_, rfl⟩
  have fn8 : (n != 8) = !n8 := by rw [← en8]; rfl
  obtain ⟨c7, ec7⟩ : ∃ b, colB x7 = b := ⟨_, rfl⟩
  obtain ⟨cn, ecn⟩ : ∃ b, colB n = b := ⟨_, rfl⟩
  obtain ⟨zC, ezC⟩ : ∃ b, (C == 0) = b := ⟨_, rfl⟩
  obtain ⟨zW, ezW⟩ : ∃ b, (W == 0) = b := ⟨_, rfl⟩
  obtain ⟨zH, ezH⟩ : ∃ b, (H == 0) = b := ⟨_, rfl⟩
  obtain ⟨gW, egW⟩ : ∃ b, decide (16384 < W) = b := ⟨_, rfl⟩
  obtain ⟨gH, egH⟩ : ∃ b, decide (16384 < H) = b := ⟨_, rfl⟩
  obtain ⟨gx, egx⟩ : ∃ b, decide (1 < x1) = b := ⟨_, rfl⟩
  obtain ⟨gf, egf⟩ : ∃ b, (f / 64 != 0) = b := ⟨_, rfl⟩
  obtain ⟨al, eal⟩ : ∃ b, alpB n (f % 16) = b := ⟨_, rfl⟩
  obtain ⟨za, eza⟩ : ∃ b, (f % 16 == 0) = b := ⟨_, rfl⟩
  obtain ⟨a8, ea8⟩ : ∃ b, (f % 16 == 8) = b := ⟨_, rfl⟩
  obtain ⟨a1, ea1⟩ : ∃ b, (f % 16 == 1) = b := ⟨_, rfl⟩
  obtain ⟨n32, en32⟩ : ∃ b, (n == 32) = b := ⟨_, rfl⟩
  obtain ⟨n16, en16⟩ : ∃ b, (n == 16) = b := ⟨_, rfl⟩
  have fza : (f % 16 != 0) = !za := by rw [← eza]; rfl
  have htm : f.tmod 16 = f % 16 := Int.tmod_eq_emod_of_nonneg b17.1
  have htd : f.tdiv 16 = f / 16 := Int.tdiv_eq_ediv_of_nonneg b17.1
  have htd2 : f.tdiv 32 = f / 32 := Int.tdiv_eq_ediv_of_nonneg b17.1
  have htm2 : (f / 16).tmod 2 = f / 16 % 2 := Int.tmod_eq_emod_of_nonneg (by omega)
  have htm3 : (f / 32).tmod 2 = f / 32 % 2 := Int.tmod_eq_emod_of_nonneg (by omega)
  rw [e1, e9, e2, e10, e3, e11, eth, en8, ec7, ecn, ezC, ezW, ezH, egW, egH, egx, egf, eal] at E0
  have HR7 := Lib.hid (fun w0 => rcolor_any x7 w0)
  have HRN := Lib.hid (fun w0 => rcolor_any n w0)
  rw [ec7] at HR7
  rw [ecn] at HRN
  have w7 : wrap64 x7 = x7 := IntWalk.wrap64_in x7 (by omega)
  have wn : wrap64 n = n := IntWalk.wrap64_in n (by omega)
  have wt : wrap64 t = t := IntWalk.wrap64_in t (by omega)
  have wf : wrap64 f = f := IntWalk.wrap64_in f (by omega)
  have w0' : wrap64 x0 = x0 := IntWalk.wrap64_in x0 (by omega)
  have w1' : wrap64 x1 = x1 := IntWalk.wrap64_in x1 (by omega)
  obtain ⟨z, ez⟩ : ∃ b, (x1 == 0) = b := ⟨_, rfl⟩
  have HZ : gx = false → z = !th := by
    intro hg
    rw [← ez, ← eth, Bool.eq_iff_iff]; rw [← egx] at hg; simp at hg; simp; omega
  have D1 : decide (x1 > 1) = gx := egx
  have D2 : decide (W > 16384) = gW := egW
  have D3 : decide (H > 16384) = gH := egH
  have D4 : decide (f ≥ 64) = gf := by rw [← egf, Bool.eq_iff_iff]; simp; omega
  obtain ⟨M, hM⟩ : ∃ b, (m1 || m9) = b := ⟨_, rfl⟩
  obtain ⟨CC, hCC⟩ : ∃ b, (m2 || m10) = b := ⟨_, rfl⟩
  obtain ⟨KN, hKN⟩ : ∃ b, (M || (CC || (m3 || m11))) = b := ⟨_, rfl⟩
  rw [hM, hCC, hKN] at E0
  have HKN := Lib.hid (show (m1 || (m2 || (m3 || (m9 || (m10 || m11))))) = KN by rw [← hKN, ← hM, ← hCC]; cases m1 <;> cases m2 <;> cases m3 <;> cases m9 <;> cases m10 <;> cases m11 <;> rfl)
  have HM := Lib.hid hM
  have HCC := Lib.hid hCC
  have HAL := Lib.hid (show (!(za || ((n32 && a8) || (n16 && a1)))) = !al by rw [← eal, ← eza, ← ea8, ← ea1, ← en32, ← en16]; rfl)
  have E := Lib.hid E0
  clear E0
  clear hM hCC hKN h egx egW egH egf eal ec7 ecn hx0 hx1 ht hx7 hn hf hFI hC hW hH
  go_enter Try.func32, Try.ntmps32
  go_upto_region 1 with (fail)
  have ORX := Lib.hid (OR0.out #[.int .i64 0, .int .i64 0, .int .i64 0, .int .i64 0, .int .i64 0, .int .i64 0, .int .i64 0, .int .i64 0, .int .i64 0, .int .i64 0, .bool false, .bool false, .int .i64 0, .int .i64 0])
  have BRX := Lib.hid (BR0.out #[.int .i64 0, .int .i64 0, .int .i64 0, .int .i64 0, .int .i64 0, .int .i64 0, .int .i64 0, .int .i64 0, .int .i64 0, .int .i64 0, .bool false, .bool false, .int .i64 0, .int .i64 0])
  have RLT : w.heap.size < (w.alloc (.cells #[.int .i64 0, .int .i64 0, .int .i64 0, .int .i64 0, .int .i64 0, .int .i64 0, .int .i64 0, .int .i64 0, .int .i64 0, .int .i64 0, .bool false, .bool false, .int .i64 0, .int .i64 0] 50)).heap.size := by simp
  generalize hw1 : w.alloc _ = w1 at ORX BRX RLT ⊢
  have RLE : w.heap.size ≤ w1.heap.size := by omega
  clear hw1 OR0 BR0
  go_upto_region 4 with (fail)
  cases gx
  rotate_left
  · skip
    go_upto_region 5 with (fail)
    go_wp2_with (first
      | (go_at_call 74; (with_reducible refine (HBD.out _ _ _).mono ?_); rintro e w2 ⟨rfl, hb2⟩)
      | (refine store_o rfl 50 14 _ _ rfl w.heap.size (rBad16 2 1) rfl rfl (by kernel_rfl) (by kernel_rfl) (by kernel_rfl) (ORX.out.below hb2 RLT) rfl ?_; intro w3 hst hO; have HO := Lib.hid hO; have B := Lib.hid (hst.below (bthen hb2 BRX.out RLE) (Nat.le_refl _)); clear hst hO; refine gen_frame 2 (.pointer (some ⟨w.heap.size, 0, none⟩)) (by kernel_rfl) (by kernel_rfl) ?_; intro A hA hAd))
    refine bodyPost_ret (v := .agg (rBad16 2 1).toArray) ?_ hAd ⟨by rw [E.out]; rfl, B.out⟩
    exact results_c Try.results32 _ _ _ (rBad16 2 1) _ hA HO.out.range0 Try.underlying50 rfl (by kernel_rfl)
  have HZ := HZ rfl
  subst HZ
  go_upto_region 6 with (fail)
  go_cut [40] from 19 to 40 (fun c wx => c = .bool (!(m1 || (m2 || (m3 || (m9 || (m10 || m11)))))) ∧ wx = w1)
  case first =>
    cases m1
    · cases m2
      · cases m3
        · cases m9
          · cases m10
            · cases m11 <;> (go_wp2_with fail; go_meet; exact ⟨rfl, rfl⟩)
            · (go_wp2_with fail; go_meet; exact ⟨rfl, rfl⟩)
          · (go_wp2_with fail; go_meet; exact ⟨rfl, rfl⟩)
        · (go_wp2_with fail; go_meet; exact ⟨rfl, rfl⟩)
      · (go_wp2_with fail; go_meet; exact ⟨rfl, rfl⟩)
    · (go_wp2_with fail; go_meet; exact ⟨rfl, rfl⟩)
  case rest =>
  obtain ⟨rfl, rfl⟩ := hcut
  rw [HKN.out]
  cases KN
  · skip
    go_upto_region 7 with (fail)
    go_wp2_with (first
      | (go_at_call 74; (with_reducible refine (HBD.out _ _ _).mono ?_); rintro e w2 ⟨rfl, hb2⟩)
      | (refine store_o rfl 50 14 _ _ rfl w.heap.size (rBad16 3 2) rfl rfl (by kernel_rfl) (by kernel_rfl) (by kernel_rfl) (ORX.out.below hb2 RLT) rfl ?_; intro w3 hst hO; have HO := Lib.hid hO; have B := Lib.hid (hst.below (bthen hb2 BRX.out RLE) (Nat.le_refl _)); clear hst hO; refine gen_frame 2 (.pointer (some ⟨w.heap.size, 0, none⟩)) (by kernel_rfl) (by kernel_rfl) ?_; intro A hA hAd))
    refine bodyPost_ret (v := .agg (rBad16 3 2).toArray) ?_ hAd ⟨by rw [E.out]; rfl, B.out⟩
    exact results_c Try.results32 _ _ _ (rBad16 3 2) _ hA HO.out.range0 Try.underlying50 rfl (by kernel_rfl)
  go_upto_region 8 with (fail)
  go_cut [52] from 42 to 52 (fun c wx => c = .bool ((m1 || m9) && !th) ∧ wx = wc)
  case first =>
    cases m1
    · cases m9
      · (go_wp2_with fail; go_meet; exact ⟨rfl, rfl⟩)
      · cases th <;> (go_wp2_with fail; go_meet; exact ⟨rfl, rfl⟩)
    · cases th <;> (go_wp2_with fail; go_meet; exact ⟨rfl, rfl⟩)
  case rest =>
  obtain ⟨rfl, rfl⟩ := hcut
  rw [HM.out]
  obtain ⟨MT, hMT⟩ : ∃ b, (M && !th) = b := ⟨_, rfl⟩
  rw [hMT] at E ⊢
  clear hMT
  cases MT
  rotate_left
  · skip
    go_upto_region 9 with (fail)
    go_wp2_with (first
      | (go_at_call 74; (with_reducible refine (HBD.out _ _ _).mono ?_); rintro e w2 ⟨rfl, hb2⟩)
      | (refine store_o rfl 50 14 _ _ rfl w.heap.size (rBad16 2 1) rfl rfl (by kernel_rfl) (by kernel_rfl) (by kernel_rfl) (ORX.out.below hb2 RLT) rfl ?_; intro w3 hst hO; have HO := Lib.hid hO; have B := Lib.hid (hst.below (bthen hb2 BRX.out RLE) (Nat.le_refl _)); clear hst hO; refine gen_frame 2 (.pointer (some ⟨w.heap.size, 0, none⟩)) (by kernel_rfl) (by kernel_rfl) ?_; intro A hA hAd))
    refine bodyPost_ret (v := .agg (rBad16 2 1).toArray) ?_ hAd ⟨by rw [E.out]; rfl, B.out⟩
    exact results_c Try.results32 _ _ _ (rBad16 2 1) _ hA HO.out.range0 Try.underlying50 rfl (by kernel_rfl)
  obtain ⟨w9, rfl⟩ : ∃ x, x = wc := ⟨_, rfl⟩
  have OX := Lib.hid (show Obj1 ((w9.alloc (.cells #[.int .i64 x0, .int .i64 x1, .int .i64 t, .int .i64 0, .int .i64 0, .int .i64 0, .int .i64 0, .int .i64 0, .int .i64 0, .int .i64 0, .bool false, .bool false, .int .i64 0, .int .i64 0] 50)).drew) w9.heap.size _ _ from (obj1_new w9 #[.int .i64 x0, .int .i64 x1, .int .i64 t, .int .i64 0, .int .i64 0, .int .i64 0, .int .i64 0, .int .i64 0, .int .i64 0, .int .i64 0, .bool false, .bool false, .int .i64 0, .int .i64 0] 50).drew)
  have ORX := Lib.hid (show Obj1 ((w9.alloc (.cells #[.int .i64 x0, .int .i64 x1, .int .i64 t, .int .i64 0, .int .i64 0, .int .i64 0, .int .i64 0, .int .i64 0, .int .i64 0, .int .i64 0, .bool false, .bool false, .int .i64 0, .int .i64 0] 50)).drew) w.heap.size _ _ from (ORX.out.alloc _).drew)
  have BRX := Lib.hid (show Below w.heap.size w ((w9.alloc (.cells #[.int .i64 x0, .int .i64 x1, .int .i64 t, .int .i64 0, .int .i64 0, .int .i64 0, .int .i64 0, .int .i64 0, .int .i64 0, .int .i64 0, .bool false, .bool false, .int .i64 0, .int .i64 0] 50)).drew) from (BRX.out.alloc RLE _).drew)
  have RL2 : ((w9.alloc (.cells #[.int .i64 x0, .int .i64 x1, .int .i64 t, .int .i64 0, .int .i64 0, .int .i64 0, .int .i64 0, .int .i64 0, .int .i64 0, .int .i64 0, .bool false, .bool false, .int .i64 0, .int .i64 0] 50)).drew).heap.size = w9.heap.size + 1 := by show (w9.alloc _).heap.size = _; simp
  go_upto_region 10 with (fail)
  go_cut [4] from 54 to 61 (fun c wx => c = .pointer (some ⟨w9.heap.size, 0, none⟩) ∧ wx = (w9.alloc (.cells #[.int .i64 x0, .int .i64 x1, .int .i64 t, .int .i64 0, .int .i64 0, .int .i64 0, .int .i64 0, .int .i64 0, .int .i64 0, .int .i64 0, .bool false, .bool false, .int .i64 0, .int .i64 0] 50)).drew)
  case first =>
    go_region
    all_goals (go_wp2_with fail; go_meet; exact ⟨rfl, rfl⟩)
  case rest =>
  obtain ⟨rfl, hwx⟩ := hcut
  obtain ⟨w10, rfl⟩ : ∃ x, x = wc := ⟨_, rfl⟩
  rw [← hwx] at OX ORX BRX RL2
  clear hwx
  obtain ⟨XB, hXB⟩ : ∃ X, w9.heap.size = X := ⟨_, rfl⟩
  rw [hXB] at OX RL2 RLT ⊢
  have RNE : w.heap.size ≠ XB := by omega
  have RXE : w.heap.size ≤ XB := by omega
  have lX := OX.out.lt
  have j5 : 5 ≤ s.size := by omega
  have j7 : 7 ≤ s.size := by omega
  have j14 : 14 ≤ s.size := by omega
  have j16 : 16 ≤ s.size := by omega
  have c3 : w10.cell? ⟨XB, 3, none⟩ = some (.int .i64 0) := OX.out.cell 3
  have k3 : w10.frozen? ⟨XB, 3, none⟩ = false := OX.out.frozen 3
  have c4 : w10.cell? ⟨XB, 4, none⟩ = some (.int .i64 0) := OX.out.cell 4
  have k4 : w10.frozen? ⟨XB, 4, none⟩ = false := OX.out.frozen 4
  have c5 : w10.cell? ⟨XB, 5, none⟩ = some (.int .i64 0) := OX.out.cell 5
  have k5 : w10.frozen? ⟨XB, 5, none⟩ = false := OX.out.frozen 5
  --TAIL
  cases th
  · clear c3 c4 c5 k3 k4 k5
    go_upto_region 17 with (fail)
    have c6 : w10.cell? ⟨XB, 6, none⟩ = some (.int .i64 0) := OX.out.cell 6
    have k6 : w10.frozen? ⟨XB, 6, none⟩ = false := OX.out.frozen 6
    have c7 : w10.cell? ⟨XB, 7, none⟩ = some (.int .i64 0) := OX.out.cell 7
    have k7 : w10.frozen? ⟨XB, 7, none⟩ = false := OX.out.frozen 7
    refine wp_region_noPanic ?_
    refine wp_region_held_drew (S := fun w' => True) (by kernel_rfl) trivial (fun hHeld => ?_)
    refine wpAnyH_take (i := 0) (v := .string s) rfl (by kernel_rfl) (by kernel_rfl) (by kernel_rfl) (fun _ _ _ h => h) (Or.inl ⟨by rfl, fun w _ => by (go_simp) <;> first | (intro hh; exfalso; omega) | (exact i64_wraps _ (by omega) (by omega))⟩) hHeld ?_
    simp only [Act.put, List.setIfInBounds_toArray, List.set_cons_zero, List.set_cons_succ, List.getElem_toArray, List.getElem_cons_zero, List.getElem_cons_succ]
    refine wpAnyH_take (i := 1) (v := .string (s.extract 12 14)) rfl (by kernel_rfl) (by kernel_rfl) (by kernel_rfl) (fun _ _ _ h => h) (Or.inl ⟨by rfl, fun w _ => by (go_simp) <;> first | (intro hh; exfalso; omega) | (exact i64_wraps _ (by omega) (by omega))⟩) hHeld ?_
    simp only [Act.put, List.setIfInBounds_toArray, List.set_cons_zero, List.set_cons_succ, List.getElem_toArray, List.getElem_cons_zero, List.getElem_cons_succ]
    refine wpAnyH_take (i := 3) (v := .string s) rfl (by kernel_rfl) (by kernel_rfl) (by kernel_rfl) (fun _ _ _ h => h) (Or.inl ⟨by rfl, fun w _ => by (go_simp) <;> first | (intro hh; exfalso; omega) | (exact i64_wraps _ (by omega) (by omega))⟩) hHeld ?_
    simp only [Act.put, List.setIfInBounds_toArray, List.set_cons_zero, List.set_cons_succ, List.getElem_toArray, List.getElem_cons_zero, List.getElem_cons_succ]
    refine wpAnyH_take (i := 4) (v := .string (s.extract 14 16)) rfl (by kernel_rfl) (by kernel_rfl) (by kernel_rfl) (fun _ _ _ h => h) (Or.inl ⟨by rfl, fun w _ => by (go_simp) <;> first | (intro hh; exfalso; omega) | (exact i64_wraps _ (by omega) (by omega))⟩) hHeld ?_
    simp only [Act.put, List.setIfInBounds_toArray, List.set_cons_zero, List.set_cons_succ, List.getElem_toArray, List.getElem_cons_zero, List.getElem_cons_succ]
    refine wpAnyH_ready (rs := [2]) (by kernel_rfl) (by simp) ?_
    refine AllReadyH.cons (o := _) rfl (fun K' hK => ?_) AllReadyH.nil
    go_simp
    refine (HL12.out _).mono ?_
    rintro e w2 ⟨rfl, rfl⟩
    go_wp2_with fail
    refine hK _ _ trivial (fun hHeld1 => ?_)
    clear hK K'
    try simp only [Act.put, List.setIfInBounds_toArray, List.set_cons_zero, List.set_cons_succ, List.getElem_toArray, List.getElem_cons_zero, List.getElem_cons_succ]
    refine wpAnyH_take (i := 6) (v := .pointer (some ⟨XB, 6, none⟩)) rfl (by kernel_rfl) (by kernel_rfl) (by kernel_rfl) (fun _ _ _ h => h) (Or.inl ⟨by rfl, fun w _ => by (go_simp) <;> first | (intro hh; exfalso; omega) | (exact i64_wraps _ (by omega) (by omega))⟩) hHeld1 ?_
    simp only [Act.put, List.setIfInBounds_toArray, List.set_cons_zero, List.set_cons_succ, List.getElem_toArray, List.getElem_cons_zero, List.getElem_cons_succ]
    refine wpAnyH_ready (rs := [5]) (by kernel_rfl) (by simp) ?_
    refine AllReadyH.cons (o := _) rfl (fun K' hK => ?_) AllReadyH.nil
    go_simp
    refine (HL14.out _).mono ?_
    rintro e w2 ⟨rfl, rfl⟩
    go_wp2_with fail
    refine hK _ _ trivial (fun hHeld2 => ?_)
    clear hK K'
    try simp only [Act.put, List.setIfInBounds_toArray, List.set_cons_zero, List.set_cons_succ, List.getElem_toArray, List.getElem_cons_zero, List.getElem_cons_succ]
    refine wpAnyH_ready (rs := [7]) (by kernel_rfl) (by simp) ?_
    refine AllReadyH.cons (o := _) rfl (fun K' hK => ?_) AllReadyH.nil
    go_simp
    refine hK _ _ trivial (fun hHeld3 => ?_)
    clear hK K'
    try simp only [Act.put, List.setIfInBounds_toArray, List.set_cons_zero, List.set_cons_succ, List.getElem_toArray, List.getElem_cons_zero, List.getElem_cons_succ]
    refine wpAnyH_take (i := 8) (v := .pointer (some ⟨XB, 7, none⟩)) rfl (by kernel_rfl) (by kernel_rfl) (by kernel_rfl) (fun _ _ _ h => h) (Or.inl ⟨by rfl, fun w _ => by (go_simp) <;> first | (intro hh; exfalso; omega) | (exact i64_wraps _ (by omega) (by omega))⟩) hHeld3 ?_
    simp only [Act.put, List.setIfInBounds_toArray, List.set_cons_zero, List.set_cons_succ, List.getElem_toArray, List.getElem_cons_zero, List.getElem_cons_succ]
    refine wpAnyH_ready (rs := [9]) (by kernel_rfl) (by simp) ?_
    refine AllReadyH.cons (o := _) rfl (fun K' hK => ?_) AllReadyH.nil
    go_simp
    refine hK _ _ trivial (fun hHeld4 => ?_)
    clear hK K'
    try simp only [Act.put, List.setIfInBounds_toArray, List.set_cons_zero, List.set_cons_succ, List.getElem_toArray, List.getElem_cons_zero, List.getElem_cons_succ]
    refine wpAnyH_done (by kernel_rfl) ?_ _
    refine NoPanic.normal ?_
    clear c6 c7 k6 k7
    have OX := Lib.hid (show Obj1 (((w10.setCell ⟨XB, 6, none⟩ (.int .i64 W)).setCell ⟨XB, 7, none⟩ (.int .i64 H)).drew) XB #[.int .i64 x0, .int .i64 x1, .int .i64 t, .int .i64 0, .int .i64 0, .int .i64 0, .int .i64 W, .int .i64 H, .int .i64 0, .int .i64 0, .bool false, .bool false, .int .i64 0, .int .i64 0] 50 from ((OX.out.set 6 (.int .i64 W)).set 7 (.int .i64 H)).drew)
    have ORX := Lib.hid (show Obj1 (((w10.setCell ⟨XB, 6, none⟩ (.int .i64 W)).setCell ⟨XB, 7, none⟩ (.int .i64 H)).drew) w.heap.size _ 50 from ((ORX.out.set_other _ _ RNE).set_other _ _ RNE).drew)
    have BRX := Lib.hid (show Below w.heap.size w (((w10.setCell ⟨XB, 6, none⟩ (.int .i64 W)).setCell ⟨XB, 7, none⟩ (.int .i64 H)).drew) from ((BRX.out.setCell RXE _).setCell RXE _).drew)
    generalize hwx : World.drew _ = w11 at OX ORX BRX ⊢
    clear hwx
    have RLE := BRX.out.size
    have RLT := ORX.out.lt
    have c6 : w11.cell? ⟨XB, 6, none⟩ = some (.int .i64 W) := OX.out.cell 6
    have k6 : w11.frozen? ⟨XB, 6, none⟩ = false := OX.out.frozen 6
    have c7 : w11.cell? ⟨XB, 7, none⟩ = some (.int .i64 H) := OX.out.cell 7
    have k7 : w11.frozen? ⟨XB, 7, none⟩ = false := OX.out.frozen 7
    have c8 : w11.cell? ⟨XB, 8, none⟩ = some (.int .i64 0) := OX.out.cell 8
    have k8 : w11.frozen? ⟨XB, 8, none⟩ = false := OX.out.frozen 8
    cases zW
    rotate_left
    · skip
      go_upto_region 19 with (first | (go_at_call 70; (with_reducible refine (HR7.out _).mono ?_); rintro e w2 ⟨rfl, rfl⟩) | (go_at_call 70; (with_reducible refine (HRN.out _).mono ?_); rintro e w2 ⟨rfl, rfl⟩))
      go_wp2_with (first
        | (go_at_call 74; (with_reducible refine (HBD.out _ _ _).mono ?_); rintro e w2 ⟨rfl, hb2⟩)
        | (go_at_call 70; (with_reducible refine (HR7.out _).mono ?_); rintro e w2 ⟨rfl, rfl⟩)
        | (go_at_call 70; (with_reducible refine (HRN.out _).mono ?_); rintro e w2 ⟨rfl, rfl⟩)
        | (refine store_o rfl 50 14 _ _ rfl w.heap.size (rBad16 2 12) rfl rfl (by kernel_rfl) (by kernel_rfl) (by kernel_rfl) (ORX.out.below hb2 RLT) rfl ?_; intro w3 hst hO; have HO := Lib.hid hO; have B := Lib.hid (hst.below (bthen hb2 BRX.out RLE) (Nat.le_refl _)); clear hst hO; refine gen_frame 2 (.pointer (some ⟨w.heap.size, 0, none⟩)) (by kernel_rfl) (by kernel_rfl) ?_; intro A hA hAd))
      refine bodyPost_ret (v := .agg (rBad16 2 12).toArray) ?_ hAd ⟨by rw [E.out]; rfl, B.out⟩
      exact results_c Try.results32 _ _ _ (rBad16 2 12) _ hA HO.out.range0 Try.underlying50 rfl (by kernel_rfl)
    cases gW
    rotate_left
    · skip
      go_upto_region 21 with (first | (go_at_call 70; (with_reducible refine (HR7.out _).mono ?_); rintro e w2 ⟨rfl, rfl⟩) | (go_at_call 70; (with_reducible refine (HRN.out _).mono ?_); rintro e w2 ⟨rfl, rfl⟩))
      go_wp2_with (first
        | (go_at_call 74; (with_reducible refine (HBD.out _ _ _).mono ?_); rintro e w2 ⟨rfl, hb2⟩)
        | (go_at_call 70; (with_reducible refine (HR7.out _).mono ?_); rintro e w2 ⟨rfl, rfl⟩)
        | (go_at_call 70; (with_reducible refine (HRN.out _).mono ?_); rintro e w2 ⟨rfl, rfl⟩)
        | (refine store_o rfl 50 14 _ _ rfl w.heap.size (rBad16 3 12) rfl rfl (by kernel_rfl) (by kernel_rfl) (by kernel_rfl) (ORX.out.below hb2 RLT) rfl ?_; intro w3 hst hO; have HO := Lib.hid hO; have B := Lib.hid (hst.below (bthen hb2 BRX.out RLE) (Nat.le_refl _)); clear hst hO; refine gen_frame 2 (.pointer (some ⟨w.heap.size, 0, none⟩)) (by kernel_rfl) (by kernel_rfl) ?_; intro A hA hAd))
      refine bodyPost_ret (v := .agg (rBad16 3 12).toArray) ?_ hAd ⟨by rw [E.out]; rfl, B.out⟩
      exact results_c Try.results32 _ _ _ (rBad16 3 12) _ hA HO.out.range0 Try.underlying50 rfl (by kernel_rfl)
    cases zH
    rotate_left
    · skip
      go_upto_region 23 with (first | (go_at_call 70; (with_reducible refine (HR7.out _).mono ?_); rintro e w2 ⟨rfl, rfl⟩) | (go_at_call 70; (with_reducible refine (HRN.out _).mono ?_); rintro e w2 ⟨rfl, rfl⟩))
      go_wp2_with (first
        | (go_at_call 74; (with_reducible refine (HBD.out _ _ _).mono ?_); rintro e w2 ⟨rfl, hb2⟩)
        | (go_at_call 70; (with_reducible refine (HR7.out _).mono ?_); rintro e w2 ⟨rfl, rfl⟩)
        | (go_at_call 70; (with_reducible refine (HRN.out _).mono ?_); rintro e w2 ⟨rfl, rfl⟩)
        | (refine store_o rfl 50 14 _ _ rfl w.heap.size (rBad16 2 14) rfl rfl (by kernel_rfl) (by kernel_rfl) (by kernel_rfl) (ORX.out.below hb2 RLT) rfl ?_; intro w3 hst hO; have HO := Lib.hid hO; have B := Lib.hid (hst.below (bthen hb2 BRX.out RLE) (Nat.le_refl _)); clear hst hO; refine gen_frame 2 (.pointer (some ⟨w.heap.size, 0, none⟩)) (by kernel_rfl) (by kernel_rfl) ?_; intro A hA hAd))
      refine bodyPost_ret (v := .agg (rBad16 2 14).toArray) ?_ hAd ⟨by rw [E.out]; rfl, B.out⟩
      exact results_c Try.results32 _ _ _ (rBad16 2 14) _ hA HO.out.range0 Try.underlying50 rfl (by kernel_rfl)
    cases gH
    rotate_left
    · skip
      go_upto_region 25 with (first | (go_at_call 70; (with_reducible refine (HR7.out _).mono ?_); rintro e w2 ⟨rfl, rfl⟩) | (go_at_call 70; (with_reducible refine (HRN.out _).mono ?_); rintro e w2 ⟨rfl, rfl⟩))
      go_wp2_with (first
        | (go_at_call 74; (with_reducible refine (HBD.out _ _ _).mono ?_); rintro e w2 ⟨rfl, hb2⟩)
        | (go_at_call 70; (with_reducible refine (HR7.out _).mono ?_); rintro e w2 ⟨rfl, rfl⟩)
        | (go_at_call 70; (with_reducible refine (HRN.out _).mono ?_); rintro e w2 ⟨rfl, rfl⟩)
        | (refine store_o rfl 50 14 _ _ rfl w.heap.size (rBad16 3 14) rfl rfl (by kernel_rfl) (by kernel_rfl) (by kernel_rfl) (ORX.out.below hb2 RLT) rfl ?_; intro w3 hst hO; have HO := Lib.hid hO; have B := Lib.hid (hst.below (bthen hb2 BRX.out RLE) (Nat.le_refl _)); clear hst hO; refine gen_frame 2 (.pointer (some ⟨w.heap.size, 0, none⟩)) (by kernel_rfl) (by kernel_rfl) ?_; intro A hA hAd))
      refine bodyPost_ret (v := .agg (rBad16 3 14).toArray) ?_ hAd ⟨by rw [E.out]; rfl, B.out⟩
      exact results_c Try.results32 _ _ _ (rBad16 3 14) _ hA HO.out.range0 Try.underlying50 rfl (by kernel_rfl)
    go_upto_region 27 with (fail)
    clear c6 c7 c8 k6 k7 k8
    have OX := Lib.hid (show Obj1 ((w11.setCell ⟨XB, 8, none⟩ (.int .i64 n))) XB #[.int .i64 x0, .int .i64 x1, .int .i64 t, .int .i64 0, .int .i64 0, .int .i64 0, .int .i64 W, .int .i64 H, .int .i64 n, .int .i64 0, .bool false, .bool false, .int .i64 0, .int .i64 0] 50 from (OX.out.set 8 (.int .i64 n)))
    have ORX := Lib.hid (show Obj1 ((w11.setCell ⟨XB, 8, none⟩ (.int .i64 n))) w.heap.size _ 50 from (ORX.out.set_other _ _ RNE))
    have BRX := Lib.hid (show Below w.heap.size w ((w11.setCell ⟨XB, 8, none⟩ (.int .i64 n))) from (BRX.out.setCell RXE _))
    generalize hwx : World.setCell _ _ _ = w12 at OX ORX BRX ⊢
    clear hwx
    have RLE := BRX.out.size
    have RLT := ORX.out.lt
    have c8 : w12.cell? ⟨XB, 8, none⟩ = some (.int .i64 n) := OX.out.cell 8
    have k8 : w12.frozen? ⟨XB, 8, none⟩ = false := OX.out.frozen 8
    have c9 : w12.cell? ⟨XB, 9, none⟩ = some (.int .i64 0) := OX.out.cell 9
    have k9 : w12.frozen? ⟨XB, 9, none⟩ = false := OX.out.frozen 9
    go_cut [138] from 114 to 138 (fun c wx => c = .bool (bif (m2 || m10) then !cn else !n8) ∧ wx = w12)
    case first =>
      cases m2
      · cases m10
        · cases n8 <;> (go_wp2_with ((go_at_call 70; (with_reducible refine (HRN.out _).mono ?_); rintro e w2 ⟨rfl, rfl⟩)); go_meet; exact ⟨rfl, rfl⟩)
        · cases cn <;> (go_wp2_with ((go_at_call 70; (with_reducible refine (HRN.out _).mono ?_); rintro e w2 ⟨rfl, rfl⟩)); go_meet; exact ⟨rfl, rfl⟩)
      · cases cn <;> (go_wp2_with ((go_at_call 70; (with_reducible refine (HRN.out _).mono ?_); rintro e w2 ⟨rfl, rfl⟩)); go_meet; exact ⟨rfl, rfl⟩)
    case rest =>
    obtain ⟨rfl, rfl⟩ := hcut
    obtain ⟨w12, rfl⟩ : ∃ x, x = wc := ⟨_, rfl⟩
    rw [HCC.out]
    obtain ⟨dp, hdp⟩ : ∃ b, (bif CC then !cn else !n8) = b := ⟨_, rfl⟩
    have hdp2 : (!(if CC = true then cn else n8)) = dp := by rw [← hdp]; cases CC <;> rfl
    rw [hdp2] at E
    rw [hdp]
    clear hdp hdp2
    cases dp
    rotate_left
    · skip
      go_upto_region 28 with (first | (go_at_call 70; (with_reducible refine (HR7.out _).mono ?_); rintro e w2 ⟨rfl, rfl⟩) | (go_at_call 70; (with_reducible refine (HRN.out _).mono ?_); rintro e w2 ⟨rfl, rfl⟩))
      go_wp2_with (first
        | (go_at_call 74; (with_reducible refine (HBD.out _ _ _).mono ?_); rintro e w2 ⟨rfl, hb2⟩)
        | (go_at_call 70; (with_reducible refine (HR7.out _).mono ?_); rintro e w2 ⟨rfl, rfl⟩)
        | (go_at_call 70; (with_reducible refine (HRN.out _).mono ?_); rintro e w2 ⟨rfl, rfl⟩)
        | (refine store_o rfl 50 14 _ _ rfl w.heap.size (rBad16 3 16) rfl rfl (by kernel_rfl) (by kernel_rfl) (by kernel_rfl) (ORX.out.below hb2 RLT) rfl ?_; intro w3 hst hO; have HO := Lib.hid hO; have B := Lib.hid (hst.below (bthen hb2 BRX.out RLE) (Nat.le_refl _)); clear hst hO; refine gen_frame 2 (.pointer (some ⟨w.heap.size, 0, none⟩)) (by kernel_rfl) (by kernel_rfl) ?_; intro A hA hAd))
      refine bodyPost_ret (v := .agg (rBad16 3 16).toArray) ?_ hAd ⟨by rw [E.out]; rfl, B.out⟩
      exact results_c Try.results32 _ _ _ (rBad16 3 16) _ hA HO.out.range0 Try.underlying50 rfl (by kernel_rfl)
    cases gf
    rotate_left
    · skip
      go_upto_region 31 with (first | (go_at_call 70; (with_reducible refine (HR7.out _).mono ?_); rintro e w2 ⟨rfl, rfl⟩) | (go_at_call 70; (with_reducible refine (HRN.out _).mono ?_); rintro e w2 ⟨rfl, rfl⟩))
      go_wp2_with (first
        | (go_at_call 74; (with_reducible refine (HBD.out _ _ _).mono ?_); rintro e w2 ⟨rfl, hb2⟩)
        | (go_at_call 70; (with_reducible refine (HR7.out _).mono ?_); rintro e w2 ⟨rfl, rfl⟩)
        | (go_at_call 70; (with_reducible refine (HRN.out _).mono ?_); rintro e w2 ⟨rfl, rfl⟩)
        | (refine store_o rfl 50 14 _ _ rfl w.heap.size (rBad16 3 17) rfl rfl (by kernel_rfl) (by kernel_rfl) (by kernel_rfl) (ORX.out.below hb2 RLT) rfl ?_; intro w3 hst hO; have HO := Lib.hid hO; have B := Lib.hid (hst.below (bthen hb2 BRX.out RLE) (Nat.le_refl _)); clear hst hO; refine gen_frame 2 (.pointer (some ⟨w.heap.size, 0, none⟩)) (by kernel_rfl) (by kernel_rfl) ?_; intro A hA hAd))
      refine bodyPost_ret (v := .agg (rBad16 3 17).toArray) ?_ hAd ⟨by rw [E.out]; rfl, B.out⟩
      exact results_c Try.results32 _ _ _ (rBad16 3 17) _ hA HO.out.range0 Try.underlying50 rfl (by kernel_rfl)
    go_upto_region 33 with (fail)
    clear c9 k9
    have OX := Lib.hid (show Obj1 ((w12.setCell ⟨XB, 9, none⟩ (.int .i64 (f % 16)))) XB #[.int .i64 x0, .int .i64 x1, .int .i64 t, .int .i64 0, .int .i64 0, .int .i64 0, .int .i64 W, .int .i64 H, .int .i64 n, .int .i64 (f % 16), .bool false, .bool false, .int .i64 0, .int .i64 0] 50 from (OX.out.set 9 (.int .i64 (f % 16))))
    have ORX := Lib.hid (show Obj1 ((w12.setCell ⟨XB, 9, none⟩ (.int .i64 (f % 16)))) w.heap.size _ 50 from (ORX.out.set_other _ _ RNE))
    have BRX := Lib.hid (show Below w.heap.size w ((w12.setCell ⟨XB, 9, none⟩ (.int .i64 (f % 16)))) from (BRX.out.setCell RXE _))
    generalize hwx : World.setCell _ _ _ = w13 at OX ORX BRX ⊢
    clear hwx
    have RLE := BRX.out.size
    have RLT := ORX.out.lt
    clear c8 k8
    have c8 : w13.cell? ⟨XB, 8, none⟩ = some (.int .i64 n) := OX.out.cell 8
    have k8 : w13.frozen? ⟨XB, 8, none⟩ = false := OX.out.frozen 8
    have c9 : w13.cell? ⟨XB, 9, none⟩ = some (.int .i64 (f % 16)) := OX.out.cell 9
    have k9 : w13.frozen? ⟨XB, 9, none⟩ = false := OX.out.frozen 9
    have c10 : w13.cell? ⟨XB, 10, none⟩ = some (.bool false) := OX.out.cell 10
    have k10 : w13.frozen? ⟨XB, 10, none⟩ = false := OX.out.frozen 10
    have c11 : w13.cell? ⟨XB, 11, none⟩ = some (.bool false) := OX.out.cell 11
    have k11 : w13.frozen? ⟨XB, 11, none⟩ = false := OX.out.frozen 11
    go_cut [173] from 149 to 173 (fun c wx => c = .bool (!(za || ((n32 && a8) || (n16 && a1)))) ∧ wx = w13)
    case first =>
      cases za
      · cases n32
        · cases n16
          · (go_wp2_with fail; go_meet; exact ⟨rfl, rfl⟩)
          · cases a1 <;> (go_wp2_with fail; go_meet; exact ⟨rfl, rfl⟩)
        · cases a8
          · cases n16
            · (go_wp2_with fail; go_meet; exact ⟨rfl, rfl⟩)
            · cases a1 <;> (go_wp2_with fail; go_meet; exact ⟨rfl, rfl⟩)
          · (go_wp2_with fail; go_meet; exact ⟨rfl, rfl⟩)
      · (go_wp2_with fail; go_meet; exact ⟨rfl, rfl⟩)
    case rest =>
    obtain ⟨rfl, rfl⟩ := hcut
    obtain ⟨w13, rfl⟩ : ∃ x, x = wc := ⟨_, rfl⟩
    rw [HAL.out]
    cases al
    · skip
      go_upto_region 34 with (first | (go_at_call 70; (with_reducible refine (HR7.out _).mono ?_); rintro e w2 ⟨rfl, rfl⟩) | (go_at_call 70; (with_reducible refine (HRN.out _).mono ?_); rintro e w2 ⟨rfl, rfl⟩))
      go_wp2_with (first
        | (go_at_call 74; (with_reducible refine (HBD.out _ _ _).mono ?_); rintro e w2 ⟨rfl, hb2⟩)
        | (go_at_call 70; (with_reducible refine (HR7.out _).mono ?_); rintro e w2 ⟨rfl, rfl⟩)
        | (go_at_call 70; (with_reducible refine (HRN.out _).mono ?_); rintro e w2 ⟨rfl, rfl⟩)
        | (refine store_o rfl 50 14 _ _ rfl w.heap.size (rBad16 2 17) rfl rfl (by kernel_rfl) (by kernel_rfl) (by kernel_rfl) (ORX.out.below hb2 RLT) rfl ?_; intro w3 hst hO; have HO := Lib.hid hO; have B := Lib.hid (hst.below (bthen hb2 BRX.out RLE) (Nat.le_refl _)); clear hst hO; refine gen_frame 2 (.pointer (some ⟨w.heap.size, 0, none⟩)) (by kernel_rfl) (by kernel_rfl) ?_; intro A hA hAd))
      refine bodyPost_ret (v := .agg (rBad16 2 17).toArray) ?_ hAd ⟨by rw [E.out]; rfl, B.out⟩
      exact results_c Try.results32 _ _ _ (rBad16 2 17) _ hA HO.out.range0 Try.underlying50 rfl (by kernel_rfl)
    go_upto_region 37 with (fail)
    clear c8 c9 c10 c11 k8 k9 k10 k11
    have OX := Lib.hid (show Obj1 (((w13.setCell ⟨XB, 10, none⟩ (.bool (f / 16 % 2 == 1))).setCell ⟨XB, 11, none⟩ (.bool (f / 32 % 2 == 1)))) XB #[.int .i64 x0, .int .i64 x1, .int .i64 t, .int .i64 0, .int .i64 0, .int .i64 0, .int .i64 W, .int .i64 H, .int .i64 n, .int .i64 (f % 16), .bool (f / 16 % 2 == 1), .bool (f / 32 % 2 == 1), .int .i64 0, .int .i64 0] 50 from (OX.out.set 10 (.bool (f / 16 % 2 == 1))).set 11 (.bool (f / 32 % 2 == 1)))
    have ORX := Lib.hid (show Obj1 (((w13.setCell ⟨XB, 10, none⟩ (.bool (f / 16 % 2 == 1))).setCell ⟨XB, 11, none⟩ (.bool (f / 32 % 2 == 1)))) w.heap.size _ 50 from (ORX.out.set_other _ _ RNE).set_other _ _ RNE)
    have BRX := Lib.hid (show Below w.heap.size w (((w13.setCell ⟨XB, 10, none⟩ (.bool (f / 16 % 2 == 1))).setCell ⟨XB, 11, none⟩ (.bool (f / 32 % 2 == 1)))) from (BRX.out.setCell RXE _).setCell RXE _)
    generalize hwx : World.setCell _ _ _ = w40 at OX ORX BRX ⊢
    clear hwx
    go_wp2_with (first
      | (refine load_o rfl 50 14 _ rfl XB [.int .i64 x0, .int .i64 x1, .int .i64 t, .int .i64 0, .int .i64 0, .int .i64 0, .int .i64 W, .int .i64 H, .int .i64 n, .int .i64 (f % 16), .bool (f / 16 % 2 == 1), .bool (f / 32 % 2 == 1), .int .i64 0, .int .i64 0] rfl (by kernel_rfl) OX.out Try.underlying50 rfl (by kernel_rfl) ?_)
      | (refine store_o rfl 50 14 _ _ rfl w.heap.size [.int .i64 x0, .int .i64 x1, .int .i64 t, .int .i64 0, .int .i64 0, .int .i64 0, .int .i64 W, .int .i64 H, .int .i64 n, .int .i64 (f % 16), .bool (f / 16 % 2 == 1), .bool (f / 32 % 2 == 1), .int .i64 0, .int .i64 0] rfl rfl (by kernel_rfl) (by kernel_rfl) (by kernel_rfl) ORX.out rfl ?_; intro w3 hst hO; have HO := Lib.hid hO; have B := Lib.hid (hst.below BRX.out (Nat.le_refl _)); clear hst hO; refine gen_frame 2 (.pointer (some ⟨w.heap.size, 0, none⟩)) (by kernel_rfl) (by kernel_rfl) ?_; intro A hA hAd))
    refine bodyPost_ret (v := .agg [.int .i64 x0, .int .i64 x1, .int .i64 t, .int .i64 0, .int .i64 0, .int .i64 0, .int .i64 W, .int .i64 H, .int .i64 n, .int .i64 (f % 16), .bool (f / 16 % 2 == 1), .bool (f / 32 % 2 == 1), .int .i64 0, .int .i64 0].toArray) ?_ hAd ⟨by rw [E.out]; rfl, B.out⟩
    exact results_c Try.results32 _ _ _ [.int .i64 x0, .int .i64 x1, .int .i64 t, .int .i64 0, .int .i64 0, .int .i64 0, .int .i64 W, .int .i64 H, .int .i64 n, .int .i64 (f % 16), .bool (f / 16 % 2 == 1), .bool (f / 32 % 2 == 1), .int .i64 0, .int .i64 0] _ hA HO.out.range0 Try.underlying50 rfl (by kernel_rfl)
  · go_wp2_with fail
    refine wp_region_noPanic ?_
    refine wp_region_held_drew (S := fun w' => True) (by kernel_rfl) trivial (fun hHeld => ?_)
    refine wpAnyH_take (i := 0) (v := .string s) rfl (by kernel_rfl) (by kernel_rfl) (by kernel_rfl) (fun _ _ _ h => h) (Or.inl ⟨by rfl, fun w _ => by (go_simp) <;> first | (intro hh; exfalso; omega) | (exact i64_wraps _ (by omega) (by omega))⟩) hHeld ?_
    simp only [Act.put, List.setIfInBounds_toArray, List.set_cons_zero, List.set_cons_succ, List.getElem_toArray, List.getElem_cons_zero, List.getElem_cons_succ]
    refine wpAnyH_take (i := 1) (v := .string (s.extract 3 5)) rfl (by kernel_rfl) (by kernel_rfl) (by kernel_rfl) (fun _ _ _ h => h) (Or.inl ⟨by rfl, fun w _ => by (go_simp) <;> first | (intro hh; exfalso; omega) | (exact i64_wraps _ (by omega) (by omega))⟩) hHeld ?_
    simp only [Act.put, List.setIfInBounds_toArray, List.set_cons_zero, List.set_cons_succ, List.getElem_toArray, List.getElem_cons_zero, List.getElem_cons_succ]
    refine wpAnyH_take (i := 3) (v := .string s) rfl (by kernel_rfl) (by kernel_rfl) (by kernel_rfl) (fun _ _ _ h => h) (Or.inl ⟨by rfl, fun w _ => by (go_simp) <;> first | (intro hh; exfalso; omega) | (exact i64_wraps _ (by omega) (by omega))⟩) hHeld ?_
    simp only [Act.put, List.setIfInBounds_toArray, List.set_cons_zero, List.set_cons_succ, List.getElem_toArray, List.getElem_cons_zero, List.getElem_cons_succ]
    refine wpAnyH_take (i := 4) (v := .string (s.extract 5 7)) rfl (by kernel_rfl) (by kernel_rfl) (by kernel_rfl) (fun _ _ _ h => h) (Or.inl ⟨by rfl, fun w _ => by (go_simp) <;> first | (intro hh; exfalso; omega) | (exact i64_wraps _ (by omega) (by omega))⟩) hHeld ?_
    simp only [Act.put, List.setIfInBounds_toArray, List.set_cons_zero, List.set_cons_succ, List.getElem_toArray, List.getElem_cons_zero, List.getElem_cons_succ]
    refine wpAnyH_take (i := 6) (v := .string s) rfl (by kernel_rfl) (by kernel_rfl) (by kernel_rfl) (fun _ _ _ h => h) (Or.inl ⟨by rfl, fun w _ => by (go_simp) <;> first | (intro hh; exfalso; omega) | (exact i64_wraps _ (by omega) (by omega))⟩) hHeld ?_
    simp only [Act.put, List.setIfInBounds_toArray, List.set_cons_zero, List.set_cons_succ, List.getElem_toArray, List.getElem_cons_zero, List.getElem_cons_succ]
    refine wpAnyH_take (i := 7) (v := .int .u8 x7) rfl (by kernel_rfl) (by kernel_rfl) (by kernel_rfl) (fun _ _ _ h => h) (Or.inl ⟨by rfl, fun w _ => by (go_simp) <;> first | (intro hh; exfalso; omega) | (exact i64_wraps _ (by omega) (by omega))⟩) hHeld ?_
    simp only [Act.put, List.setIfInBounds_toArray, List.set_cons_zero, List.set_cons_succ, List.getElem_toArray, List.getElem_cons_zero, List.getElem_cons_succ]
    refine wpAnyH_take (i := 8) (v := .int .i64 x7) rfl (by kernel_rfl) (by kernel_rfl) (by kernel_rfl) (fun _ _ _ h => h) (Or.inl ⟨by rfl, fun w _ => by (go_simp) <;> first | (intro hh; exfalso; omega) | (exact i64_wraps _ (by omega) (by omega))⟩) hHeld ?_
    simp only [Act.put, List.setIfInBounds_toArray, List.set_cons_zero, List.set_cons_succ, List.getElem_toArray, List.getElem_cons_zero, List.getElem_cons_succ]
    refine wpAnyH_ready (rs := [2]) (by kernel_rfl) (by simp) ?_
    refine AllReadyH.cons (o := _) rfl (fun K' hK => ?_) AllReadyH.nil
    go_simp
    refine (HL3.out _).mono ?_
    rintro e w2 ⟨rfl, rfl⟩
    go_wp2_with fail
    refine hK _ _ trivial (fun hHeld1 => ?_)
    clear hK K'
    try simp only [Act.put, List.setIfInBounds_toArray, List.set_cons_zero, List.set_cons_succ, List.getElem_toArray, List.getElem_cons_zero, List.getElem_cons_succ]
    refine wpAnyH_take (i := 9) (v := .pointer (some ⟨XB, 3, none⟩)) rfl (by kernel_rfl) (by kernel_rfl) (by kernel_rfl) (fun _ _ _ h => h) (Or.inl ⟨by rfl, fun w _ => by (go_simp) <;> first | (intro hh; exfalso; omega) | (exact i64_wraps _ (by omega) (by omega))⟩) hHeld1 ?_
    simp only [Act.put, List.setIfInBounds_toArray, List.set_cons_zero, List.set_cons_succ, List.getElem_toArray, List.getElem_cons_zero, List.getElem_cons_succ]
    refine wpAnyH_ready (rs := [5]) (by kernel_rfl) (by simp) ?_
    refine AllReadyH.cons (o := _) rfl (fun K' hK => ?_) AllReadyH.nil
    go_simp
    refine (HL5.out _).mono ?_
    rintro e w2 ⟨rfl, rfl⟩
    go_wp2_with fail
    refine hK _ _ trivial (fun hHeld2 => ?_)
    clear hK K'
    try simp only [Act.put, List.setIfInBounds_toArray, List.set_cons_zero, List.set_cons_succ, List.getElem_toArray, List.getElem_cons_zero, List.getElem_cons_succ]
    refine wpAnyH_ready (rs := [10]) (by kernel_rfl) (by simp) ?_
    refine AllReadyH.cons (o := _) rfl (fun K' hK => ?_) AllReadyH.nil
    go_simp
    refine hK _ _ trivial (fun hHeld3 => ?_)
    clear hK K'
    try simp only [Act.put, List.setIfInBounds_toArray, List.set_cons_zero, List.set_cons_succ, List.getElem_toArray, List.getElem_cons_zero, List.getElem_cons_succ]
    refine wpAnyH_take (i := 11) (v := .pointer (some ⟨XB, 4, none⟩)) rfl (by kernel_rfl) (by kernel_rfl) (by kernel_rfl) (fun _ _ _ h => h) (Or.inl ⟨by rfl, fun w _ => by (go_simp) <;> first | (intro hh; exfalso; omega) | (exact i64_wraps _ (by omega) (by omega))⟩) hHeld3 ?_
    simp only [Act.put, List.setIfInBounds_toArray, List.set_cons_zero, List.set_cons_succ, List.getElem_toArray, List.getElem_cons_zero, List.getElem_cons_succ]
    refine wpAnyH_ready (rs := [12]) (by kernel_rfl) (by simp) ?_
    refine AllReadyH.cons (o := _) rfl (fun K' hK => ?_) AllReadyH.nil
    go_simp
    refine hK _ _ trivial (fun hHeld4 => ?_)
    clear hK K'
    try simp only [Act.put, List.setIfInBounds_toArray, List.set_cons_zero, List.set_cons_succ, List.getElem_toArray, List.getElem_cons_zero, List.getElem_cons_succ]
    refine wpAnyH_take (i := 13) (v := .pointer (some ⟨XB, 5, none⟩)) rfl (by kernel_rfl) (by kernel_rfl) (by kernel_rfl) (fun _ _ _ h => h) (Or.inl ⟨by rfl, fun w _ => by (go_simp) <;> first | (intro hh; exfalso; omega) | (exact i64_wraps _ (by omega) (by omega))⟩) hHeld4 ?_
    simp only [Act.put, List.setIfInBounds_toArray, List.set_cons_zero, List.set_cons_succ, List.getElem_toArray, List.getElem_cons_zero, List.getElem_cons_succ]
    refine wpAnyH_ready (rs := [14]) (by kernel_rfl) (by simp) ?_
    refine AllReadyH.cons (o := _) rfl (fun K' hK => ?_) AllReadyH.nil
    go_simp
    refine hK _ _ trivial (fun hHeld5 => ?_)
    clear hK K'
    try simp only [Act.put, List.setIfInBounds_toArray, List.set_cons_zero, List.set_cons_succ, List.getElem_toArray, List.getElem_cons_zero, List.getElem_cons_succ]
    refine wpAnyH_done (by kernel_rfl) ?_ _
    refine NoPanic.normal ?_
    have OX := Lib.hid (show Obj1 ((((w10.setCell ⟨XB, 3, none⟩ (.int .i64 FI)).setCell ⟨XB, 4, none⟩ (.int .i64 C)).setCell ⟨XB, 5, none⟩ (.int .i64 x7)).drew) XB #[.int .i64 x0, .int .i64 x1, .int .i64 t, .int .i64 FI, .int .i64 C, .int .i64 x7, .int .i64 0, .int .i64 0, .int .i64 0, .int .i64 0, .bool false, .bool false, .int .i64 0, .int .i64 0] 50 from (((OX.out.set 3 (.int .i64 FI)).set 4 (.int .i64 C)).set 5 (.int .i64 x7)).drew)
    have ORX := Lib.hid (show Obj1 ((((w10.setCell ⟨XB, 3, none⟩ (.int .i64 FI)).setCell ⟨XB, 4, none⟩ (.int .i64 C)).setCell ⟨XB, 5, none⟩ (.int .i64 x7)).drew) w.heap.size _ 50 from (((ORX.out.set_other _ _ RNE).set_other _ _ RNE).set_other _ _ RNE).drew)
    have BRX := Lib.hid (show Below w.heap.size w ((((w10.setCell ⟨XB, 3, none⟩ (.int .i64 FI)).setCell ⟨XB, 4, none⟩ (.int .i64 C)).setCell ⟨XB, 5, none⟩ (.int .i64 x7)).drew) from (((BRX.out.setCell RXE _).setCell RXE _).setCell RXE _).drew)
    generalize hwx : World.drew _ = w11 at OX ORX BRX ⊢
    clear hwx
    have RLE := BRX.out.size
    have RLT := ORX.out.lt
    clear c3 c4 c5 k3 k4 k5
    have c4 : w11.cell? ⟨XB, 4, none⟩ = some (.int .i64 C) := OX.out.cell 4
    have k4 : w11.frozen? ⟨XB, 4, none⟩ = false := OX.out.frozen 4
    have c5 : w11.cell? ⟨XB, 5, none⟩ = some (.int .i64 x7) := OX.out.cell 5
    have k5 : w11.frozen? ⟨XB, 5, none⟩ = false := OX.out.frozen 5
    cases c7
    · skip
      go_upto_region 14 with (first | (go_at_call 70; (with_reducible refine (HR7.out _).mono ?_); rintro e w2 ⟨rfl, rfl⟩) | (go_at_call 70; (with_reducible refine (HRN.out _).mono ?_); rintro e w2 ⟨rfl, rfl⟩))
      go_wp2_with (first
        | (go_at_call 74; (with_reducible refine (HBD.out _ _ _).mono ?_); rintro e w2 ⟨rfl, hb2⟩)
        | (go_at_call 70; (with_reducible refine (HR7.out _).mono ?_); rintro e w2 ⟨rfl, rfl⟩)
        | (go_at_call 70; (with_reducible refine (HRN.out _).mono ?_); rintro e w2 ⟨rfl, rfl⟩)
        | (refine store_o rfl 50 14 _ _ rfl w.heap.size (rBad16 3 7) rfl rfl (by kernel_rfl) (by kernel_rfl) (by kernel_rfl) (ORX.out.below hb2 RLT) rfl ?_; intro w3 hst hO; have HO := Lib.hid hO; have B := Lib.hid (hst.below (bthen hb2 BRX.out RLE) (Nat.le_refl _)); clear hst hO; refine gen_frame 2 (.pointer (some ⟨w.heap.size, 0, none⟩)) (by kernel_rfl) (by kernel_rfl) ?_; intro A hA hAd))
      refine bodyPost_ret (v := .agg (rBad16 3 7).toArray) ?_ hAd ⟨by rw [E.out]; rfl, B.out⟩
      exact results_c Try.results32 _ _ _ (rBad16 3 7) _ hA HO.out.range0 Try.underlying50 rfl (by kernel_rfl)
    cases zC
    rotate_left
    · skip
      go_upto_region 16 with (first | (go_at_call 70; (with_reducible refine (HR7.out _).mono ?_); rintro e w2 ⟨rfl, rfl⟩) | (go_at_call 70; (with_reducible refine (HRN.out _).mono ?_); rintro e w2 ⟨rfl, rfl⟩))
      go_wp2_with (first
        | (go_at_call 74; (with_reducible refine (HBD.out _ _ _).mono ?_); rintro e w2 ⟨rfl, hb2⟩)
        | (go_at_call 70; (with_reducible refine (HR7.out _).mono ?_); rintro e w2 ⟨rfl, rfl⟩)
        | (go_at_call 70; (with_reducible refine (HRN.out _).mono ?_); rintro e w2 ⟨rfl, rfl⟩)
        | (refine store_o rfl 50 14 _ _ rfl w.heap.size (rBad16 2 5) rfl rfl (by kernel_rfl) (by kernel_rfl) (by kernel_rfl) (ORX.out.below hb2 RLT) rfl ?_; intro w3 hst hO; have HO := Lib.hid hO; have B := Lib.hid (hst.below (bthen hb2 BRX.out RLE) (Nat.le_refl _)); clear hst hO; refine gen_frame 2 (.pointer (some ⟨w.heap.size, 0, none⟩)) (by kernel_rfl) (by kernel_rfl) ?_; intro A hA hAd))
      refine bodyPost_ret (v := .agg (rBad16 2 5).toArray) ?_ hAd ⟨by rw [E.out]; rfl, B.out⟩
      exact results_c Try.results32 _ _ _ (rBad16 2 5) _ hA HO.out.range0 Try.underlying50 rfl (by kernel_rfl)
    go_upto_region 17 with (first | ((go_at_call 70; (with_reducible refine (HR7.out _).mono ?_); rintro e w2 ⟨rfl, hw2⟩); have hw2 := hw2.symm; subst hw2))
    have c6 : w11.cell? ⟨XB, 6, none⟩ = some (.int .i64 0) := OX.out.cell 6
    have k6 : w11.frozen? ⟨XB, 6, none⟩ = false := OX.out.frozen 6
    have c7 : w11.cell? ⟨XB, 7, none⟩ = some (.int .i64 0) := OX.out.cell 7
    have k7 : w11.frozen? ⟨XB, 7, none⟩ = false := OX.out.frozen 7
    refine wp_region_noPanic ?_
    refine wp_region_held_drew (S := fun w' => True) (by kernel_rfl) trivial (fun hHeld => ?_)
    refine wpAnyH_take (i := 0) (v := .string s) rfl (by kernel_rfl) (by kernel_rfl) (by kernel_rfl) (fun _ _ _ h => h) (Or.inl ⟨by rfl, fun w _ => by (go_simp) <;> first | (intro hh; exfalso; omega) | (exact i64_wraps _ (by omega) (by omega))⟩) hHeld ?_
    simp only [Act.put, List.setIfInBounds_toArray, List.set_cons_zero, List.set_cons_succ, List.getElem_toArray, List.getElem_cons_zero, List.getElem_cons_succ]
    refine wpAnyH_take (i := 1) (v := .string (s.extract 12 14)) rfl (by kernel_rfl) (by kernel_rfl) (by kernel_rfl) (fun _ _ _ h => h) (Or.inl ⟨by rfl, fun w _ => by (go_simp) <;> first | (intro hh; exfalso; omega) | (exact i64_wraps _ (by omega) (by omega))⟩) hHeld ?_
    simp only [Act.put, List.setIfInBounds_toArray, List.set_cons_zero, List.set_cons_succ, List.getElem_toArray, List.getElem_cons_zero, List.getElem_cons_succ]
    refine wpAnyH_take (i := 3) (v := .string s) rfl (by kernel_rfl) (by kernel_rfl) (by kernel_rfl) (fun _ _ _ h => h) (Or.inl ⟨by rfl, fun w _ => by (go_simp) <;> first | (intro hh; exfalso; omega) | (exact i64_wraps _ (by omega) (by omega))⟩) hHeld ?_
    simp only [Act.put, List.setIfInBounds_toArray, List.set_cons_zero, List.set_cons_succ, List.getElem_toArray, List.getElem_cons_zero, List.getElem_cons_succ]
    refine wpAnyH_take (i := 4) (v := .string (s.extract 14 16)) rfl (by kernel_rfl) (by kernel_rfl) (by kernel_rfl) (fun _ _ _ h => h) (Or.inl ⟨by rfl, fun w _ => by (go_simp) <;> first | (intro hh; exfalso; omega) | (exact i64_wraps _ (by omega) (by omega))⟩) hHeld ?_
    simp only [Act.put, List.setIfInBounds_toArray, List.set_cons_zero, List.set_cons_succ, List.getElem_toArray, List.getElem_cons_zero, List.getElem_cons_succ]
    refine wpAnyH_ready (rs := [2]) (by kernel_rfl) (by simp) ?_
    refine AllReadyH.cons (o := _) rfl (fun K' hK => ?_) AllReadyH.nil
    go_simp
    refine (HL12.out _).mono ?_
    rintro e w2 ⟨rfl, rfl⟩
    go_wp2_with fail
    refine hK _ _ trivial (fun hHeld1 => ?_)
    clear hK K'
    try simp only [Act.put, List.setIfInBounds_toArray, List.set_cons_zero, List.set_cons_succ, List.getElem_toArray, List.getElem_cons_zero, List.getElem_cons_succ]
    refine wpAnyH_take (i := 6) (v := .pointer (some ⟨XB, 6, none⟩)) rfl (by kernel_rfl) (by kernel_rfl) (by kernel_rfl) (fun _ _ _ h => h) (Or.inl ⟨by rfl, fun w _ => by (go_simp) <;> first | (intro hh; exfalso; omega) | (exact i64_wraps _ (by omega) (by omega))⟩) hHeld1 ?_
    simp only [Act.put, List.setIfInBounds_toArray, List.set_cons_zero, List.set_cons_succ, List.getElem_toArray, List.getElem_cons_zero, List.getElem_cons_succ]
    refine wpAnyH_ready (rs := [5]) (by kernel_rfl) (by simp) ?_
    refine AllReadyH.cons (o := _) rfl (fun K' hK => ?_) AllReadyH.nil
    go_simp
    refine (HL14.out _).mono ?_
    rintro e w2 ⟨rfl, rfl⟩
    go_wp2_with fail
    refine hK _ _ trivial (fun hHeld2 => ?_)
    clear hK K'
    try simp only [Act.put, List.setIfInBounds_toArray, List.set_cons_zero, List.set_cons_succ, List.getElem_toArray, List.getElem_cons_zero, List.getElem_cons_succ]
    refine wpAnyH_ready (rs := [7]) (by kernel_rfl) (by simp) ?_
    refine AllReadyH.cons (o := _) rfl (fun K' hK => ?_) AllReadyH.nil
    go_simp
    refine hK _ _ trivial (fun hHeld3 => ?_)
    clear hK K'
    try simp only [Act.put, List.setIfInBounds_toArray, List.set_cons_zero, List.set_cons_succ, List.getElem_toArray, List.getElem_cons_zero, List.getElem_cons_succ]
    refine wpAnyH_take (i := 8) (v := .pointer (some ⟨XB, 7, none⟩)) rfl (by kernel_rfl) (by kernel_rfl) (by kernel_rfl) (fun _ _ _ h => h) (Or.inl ⟨by rfl, fun w _ => by (go_simp) <;> first | (intro hh; exfalso; omega) | (exact i64_wraps _ (by omega) (by omega))⟩) hHeld3 ?_
    simp only [Act.put, List.setIfInBounds_toArray, List.set_cons_zero, List.set_cons_succ, List.getElem_toArray, List.getElem_cons_zero, List.getElem_cons_succ]
    refine wpAnyH_ready (rs := [9]) (by kernel_rfl) (by simp) ?_
    refine AllReadyH.cons (o := _) rfl (fun K' hK => ?_) AllReadyH.nil
    go_simp
    refine hK _ _ trivial (fun hHeld4 => ?_)
    clear hK K'
    try simp only [Act.put, List.setIfInBounds_toArray, List.set_cons_zero, List.set_cons_succ, List.getElem_toArray, List.getElem_cons_zero, List.getElem_cons_succ]
    refine wpAnyH_done (by kernel_rfl) ?_ _
    refine NoPanic.normal ?_
    clear c6 c7 k6 k7
    have OX := Lib.hid (show Obj1 (((w11.setCell ⟨XB, 6, none⟩ (.int .i64 W)).setCell ⟨XB, 7, none⟩ (.int .i64 H)).drew) XB #[.int .i64 x0, .int .i64 x1, .int .i64 t, .int .i64 FI, .int .i64 C, .int .i64 x7, .int .i64 W, .int .i64 H, .int .i64 0, .int .i64 0, .bool false, .bool false, .int .i64 0, .int .i64 0] 50 from ((OX.out.set 6 (.int .i64 W)).set 7 (.int .i64 H)).drew)
    have ORX := Lib.hid (show Obj1 (((w11.setCell ⟨XB, 6, none⟩ (.int .i64 W)).setCell ⟨XB, 7, none⟩ (.int .i64 H)).drew) w.heap.size _ 50 from ((ORX.out.set_other _ _ RNE).set_other _ _ RNE).drew)
    have BRX := Lib.hid (show Below w.heap.size w (((w11.setCell ⟨XB, 6, none⟩ (.int .i64 W)).setCell ⟨XB, 7, none⟩ (.int .i64 H)).drew) from ((BRX.out.setCell RXE _).setCell RXE _).drew)
    generalize hwx : World.drew _ = w12 at OX ORX BRX ⊢
    clear hwx
    have RLE := BRX.out.size
    have RLT := ORX.out.lt
    have c6 : w12.cell? ⟨XB, 6, none⟩ = some (.int .i64 W) := OX.out.cell 6
    have k6 : w12.frozen? ⟨XB, 6, none⟩ = false := OX.out.frozen 6
    have c7 : w12.cell? ⟨XB, 7, none⟩ = some (.int .i64 H) := OX.out.cell 7
    have k7 : w12.frozen? ⟨XB, 7, none⟩ = false := OX.out.frozen 7
    have c8 : w12.cell? ⟨XB, 8, none⟩ = some (.int .i64 0) := OX.out.cell 8
    have k8 : w12.frozen? ⟨XB, 8, none⟩ = false := OX.out.frozen 8
    cases zW
    rotate_left
    · skip
      go_upto_region 19 with (first | (go_at_call 70; (with_reducible refine (HR7.out _).mono ?_); rintro e w2 ⟨rfl, rfl⟩) | (go_at_call 70; (with_reducible refine (HRN.out _).mono ?_); rintro e w2 ⟨rfl, rfl⟩))
      go_wp2_with (first
        | (go_at_call 74; (with_reducible refine (HBD.out _ _ _).mono ?_); rintro e w2 ⟨rfl, hb2⟩)
        | (go_at_call 70; (with_reducible refine (HR7.out _).mono ?_); rintro e w2 ⟨rfl, rfl⟩)
        | (go_at_call 70; (with_reducible refine (HRN.out _).mono ?_); rintro e w2 ⟨rfl, rfl⟩)
        | (refine store_o rfl 50 14 _ _ rfl w.heap.size (rBad16 2 12) rfl rfl (by kernel_rfl) (by kernel_rfl) (by kernel_rfl) (ORX.out.below hb2 RLT) rfl ?_; intro w3 hst hO; have HO := Lib.hid hO; have B := Lib.hid (hst.below (bthen hb2 BRX.out RLE) (Nat.le_refl _)); clear hst hO; refine gen_frame 2 (.pointer (some ⟨w.heap.size, 0, none⟩)) (by kernel_rfl) (by kernel_rfl) ?_; intro A hA hAd))
      refine bodyPost_ret (v := .agg (rBad16 2 12).toArray) ?_ hAd ⟨by rw [E.out]; rfl, B.out⟩
      exact results_c Try.results32 _ _ _ (rBad16 2 12) _ hA HO.out.range0 Try.underlying50 rfl (by kernel_rfl)
    cases gW
    rotate_left
    · skip
      go_upto_region 21 with (first | (go_at_call 70; (with_reducible refine (HR7.out _).mono ?_); rintro e w2 ⟨rfl, rfl⟩) | (go_at_call 70; (with_reducible refine (HRN.out _).mono ?_); rintro e w2 ⟨rfl, rfl⟩))
      go_wp2_with (first
        | (go_at_call 74; (with_reducible refine (HBD.out _ _ _).mono ?_); rintro e w2 ⟨rfl, hb2⟩)
        | (go_at_call 70; (with_reducible refine (HR7.out _).mono ?_); rintro e w2 ⟨rfl, rfl⟩)
        | (go_at_call 70; (with_reducible refine (HRN.out _).mono ?_); rintro e w2 ⟨rfl, rfl⟩)
        | (refine store_o rfl 50 14 _ _ rfl w.heap.size (rBad16 3 12) rfl rfl (by kernel_rfl) (by kernel_rfl) (by kernel_rfl) (ORX.out.below hb2 RLT) rfl ?_; intro w3 hst hO; have HO := Lib.hid hO; have B := Lib.hid (hst.below (bthen hb2 BRX.out RLE) (Nat.le_refl _)); clear hst hO; refine gen_frame 2 (.pointer (some ⟨w.heap.size, 0, none⟩)) (by kernel_rfl) (by kernel_rfl) ?_; intro A hA hAd))
      refine bodyPost_ret (v := .agg (rBad16 3 12).toArray) ?_ hAd ⟨by rw [E.out]; rfl, B.out⟩
      exact results_c Try.results32 _ _ _ (rBad16 3 12) _ hA HO.out.range0 Try.underlying50 rfl (by kernel_rfl)
    cases zH
    rotate_left
    · skip
      go_upto_region 23 with (first | (go_at_call 70; (with_reducible refine (HR7.out _).mono ?_); rintro e w2 ⟨rfl, rfl⟩) | (go_at_call 70; (with_reducible refine (HRN.out _).mono ?_); rintro e w2 ⟨rfl, rfl⟩))
      go_wp2_with (first
        | (go_at_call 74; (with_reducible refine (HBD.out _ _ _).mono ?_); rintro e w2 ⟨rfl, hb2⟩)
        | (go_at_call 70; (with_reducible refine (HR7.out _).mono ?_); rintro e w2 ⟨rfl, rfl⟩)
        | (go_at_call 70; (with_reducible refine (HRN.out _).mono ?_); rintro e w2 ⟨rfl, rfl⟩)
        | (refine store_o rfl 50 14 _ _ rfl w.heap.size (rBad16 2 14) rfl rfl (by kernel_rfl) (by kernel_rfl) (by kernel_rfl) (ORX.out.below hb2 RLT) rfl ?_; intro w3 hst hO; have HO := Lib.hid hO; have B := Lib.hid (hst.below (bthen hb2 BRX.out RLE) (Nat.le_refl _)); clear hst hO; refine gen_frame 2 (.pointer (some ⟨w.heap.size, 0, none⟩)) (by kernel_rfl) (by kernel_rfl) ?_; intro A hA hAd))
      refine bodyPost_ret (v := .agg (rBad16 2 14).toArray) ?_ hAd ⟨by rw [E.out]; rfl, B.out⟩
      exact results_c Try.results32 _ _ _ (rBad16 2 14) _ hA HO.out.range0 Try.underlying50 rfl (by kernel_rfl)
    cases gH
    rotate_left
    · skip
      go_upto_region 25 with (first | (go_at_call 70; (with_reducible refine (HR7.out _).mono ?_); rintro e w2 ⟨rfl, rfl⟩) | (go_at_call 70; (with_reducible refine (HRN.out _).mono ?_); rintro e w2 ⟨rfl, rfl⟩))
      go_wp2_with (first
        | (go_at_call 74; (with_reducible refine (HBD.out _ _ _).mono ?_); rintro e w2 ⟨rfl, hb2⟩)
        | (go_at_call 70; (with_reducible refine (HR7.out _).mono ?_); rintro e w2 ⟨rfl, rfl⟩)
        | (go_at_call 70; (with_reducible refine (HRN.out _).mono ?_); rintro e w2 ⟨rfl, rfl⟩)
        | (refine store_o rfl 50 14 _ _ rfl w.heap.size (rBad16 3 14) rfl rfl (by kernel_rfl) (by kernel_rfl) (by kernel_rfl) (ORX.out.below hb2 RLT) rfl ?_; intro w3 hst hO; have HO := Lib.hid hO; have B := Lib.hid (hst.below (bthen hb2 BRX.out RLE) (Nat.le_refl _)); clear hst hO; refine gen_frame 2 (.pointer (some ⟨w.heap.size, 0, none⟩)) (by kernel_rfl) (by kernel_rfl) ?_; intro A hA hAd))
      refine bodyPost_ret (v := .agg (rBad16 3 14).toArray) ?_ hAd ⟨by rw [E.out]; rfl, B.out⟩
      exact results_c Try.results32 _ _ _ (rBad16 3 14) _ hA HO.out.range0 Try.underlying50 rfl (by kernel_rfl)
    go_upto_region 27 with (fail)
    clear c6 c7 c8 k6 k7 k8
    have OX := Lib.hid (show Obj1 ((w12.setCell ⟨XB, 8, none⟩ (.int .i64 n))) XB #[.int .i64 x0, .int .i64 x1, .int .i64 t, .int .i64 FI, .int .i64 C, .int .i64 x7, .int .i64 W, .int .i64 H, .int .i64 n, .int .i64 0, .bool false, .bool false, .int .i64 0, .int .i64 0] 50 from (OX.out.set 8 (.int .i64 n)))
    have ORX := Lib.hid (show Obj1 ((w12.setCell ⟨XB, 8, none⟩ (.int .i64 n))) w.heap.size _ 50 from (ORX.out.set_other _ _ RNE))
    have BRX := Lib.hid (show Below w.heap.size w ((w12.setCell ⟨XB, 8, none⟩ (.int .i64 n))) from (BRX.out.setCell RXE _))
    generalize hwx : World.setCell _ _ _ = w13 at OX ORX BRX ⊢
    clear hwx
    have RLE := BRX.out.size
    have RLT := ORX.out.lt
    have c8 : w13.cell? ⟨XB, 8, none⟩ = some (.int .i64 n) := OX.out.cell 8
    have k8 : w13.frozen? ⟨XB, 8, none⟩ = false := OX.out.frozen 8
    have c9 : w13.cell? ⟨XB, 9, none⟩ = some (.int .i64 0) := OX.out.cell 9
    have k9 : w13.frozen? ⟨XB, 9, none⟩ = false := OX.out.frozen 9
    go_cut [138] from 114 to 138 (fun c wx => c = .bool (bif (m2 || m10) then !cn else !n8) ∧ wx = w13)
    case first =>
      cases m2
      · cases m10
        · cases n8 <;> (go_wp2_with ((go_at_call 70; (with_reducible refine (HRN.out _).mono ?_); rintro e w2 ⟨rfl, rfl⟩)); go_meet; exact ⟨rfl, rfl⟩)
        · cases cn <;> (go_wp2_with ((go_at_call 70; (with_reducible refine (HRN.out _).mono ?_); rintro e w2 ⟨rfl, rfl⟩)); go_meet; exact ⟨rfl, rfl⟩)
      · cases cn <;> (go_wp2_with ((go_at_call 70; (with_reducible refine (HRN.out _).mono ?_); rintro e w2 ⟨rfl, rfl⟩)); go_meet; exact ⟨rfl, rfl⟩)
    case rest =>
    obtain ⟨rfl, rfl⟩ := hcut
    obtain ⟨w13, rfl⟩ : ∃ x, x = wc := ⟨_, rfl⟩
    rw [HCC.out]
    obtain ⟨dp, hdp⟩ : ∃ b, (bif CC then !cn else !n8) = b := ⟨_, rfl⟩
    have hdp2 : (!(if CC = true then cn else n8)) = dp := by rw [← hdp]; cases CC <;> rfl
    rw [hdp2] at E
    rw [hdp]
    clear hdp hdp2
    cases dp
    rotate_left
    · skip
      go_upto_region 28 with (first | (go_at_call 70; (with_reducible refine (HR7.out _).mono ?_); rintro e w2 ⟨rfl, rfl⟩) | (go_at_call 70; (with_reducible refine (HRN.out _).mono ?_); rintro e w2 ⟨rfl, rfl⟩))
      go_wp2_with (first
        | (go_at_call 74; (with_reducible refine (HBD.out _ _ _).mono ?_); rintro e w2 ⟨rfl, hb2⟩)
        | (go_at_call 70; (with_reducible refine (HR7.out _).mono ?_); rintro e w2 ⟨rfl, rfl⟩)
        | (go_at_call 70; (with_reducible refine (HRN.out _).mono ?_); rintro e w2 ⟨rfl, rfl⟩)
        | (refine store_o rfl 50 14 _ _ rfl w.heap.size (rBad16 3 16) rfl rfl (by kernel_rfl) (by kernel_rfl) (by kernel_rfl) (ORX.out.below hb2 RLT) rfl ?_; intro w3 hst hO; have HO := Lib.hid hO; have B := Lib.hid (hst.below (bthen hb2 BRX.out RLE) (Nat.le_refl _)); clear hst hO; refine gen_frame 2 (.pointer (some ⟨w.heap.size, 0, none⟩)) (by kernel_rfl) (by kernel_rfl) ?_; intro A hA hAd))
      refine bodyPost_ret (v := .agg (rBad16 3 16).toArray) ?_ hAd ⟨by rw [E.out]; rfl, B.out⟩
      exact results_c Try.results32 _ _ _ (rBad16 3 16) _ hA HO.out.range0 Try.underlying50 rfl (by kernel_rfl)
    cases gf
    rotate_left
    · skip
      go_upto_region 31 with (first | (go_at_call 70; (with_reducible refine (HR7.out _).mono ?_); rintro e w2 ⟨rfl, rfl⟩) | (go_at_call 70; (with_reducible refine (HRN.out _).mono ?_); rintro e w2 ⟨rfl, rfl⟩))
      go_wp2_with (first
        | (go_at_call 74; (with_reducible refine (HBD.out _ _ _).mono ?_); rintro e w2 ⟨rfl, hb2⟩)
        | (go_at_call 70; (with_reducible refine (HR7.out _).mono ?_); rintro e w2 ⟨rfl, rfl⟩)
        | (go_at_call 70; (with_reducible refine (HRN.out _).mono ?_); rintro e w2 ⟨rfl, rfl⟩)
        | (refine store_o rfl 50 14 _ _ rfl w.heap.size (rBad16 3 17) rfl rfl (by kernel_rfl) (by kernel_rfl) (by kernel_rfl) (ORX.out.below hb2 RLT) rfl ?_; intro w3 hst hO; have HO := Lib.hid hO; have B := Lib.hid (hst.below (bthen hb2 BRX.out RLE) (Nat.le_refl _)); clear hst hO; refine gen_frame 2 (.pointer (some ⟨w.heap.size, 0, none⟩)) (by kernel_rfl) (by kernel_rfl) ?_; intro A hA hAd))
      refine bodyPost_ret (v := .agg (rBad16 3 17).toArray) ?_ hAd ⟨by rw [E.out]; rfl, B.out⟩
      exact results_c Try.results32 _ _ _ (rBad16 3 17) _ hA HO.out.range0 Try.underlying50 rfl (by kernel_rfl)
    go_upto_region 33 with (fail)
    clear c9 k9
    have OX := Lib.hid (show Obj1 ((w13.setCell ⟨XB, 9, none⟩ (.int .i64 (f % 16)))) XB #[.int .i64 x0, .int .i64 x1, .int .i64 t, .int .i64 FI, .int .i64 C, .int .i64 x7, .int .i64 W, .int .i64 H, .int .i64 n, .int .i64 (f % 16), .bool false, .bool false, .int .i64 0, .int .i64 0] 50 from (OX.out.set 9 (.int .i64 (f % 16))))
    have ORX := Lib.hid (show Obj1 ((w13.setCell ⟨XB, 9, none⟩ (.int .i64 (f % 16)))) w.heap.size _ 50 from (ORX.out.set_other _ _ RNE))
    have BRX := Lib.hid (show Below w.heap.size w ((w13.setCell ⟨XB, 9, none⟩ (.int .i64 (f % 16)))) from (BRX.out.setCell RXE _))
    generalize hwx : World.setCell _ _ _ = w14 at OX ORX BRX ⊢
    clear hwx
    have RLE := BRX.out.size
    have RLT := ORX.out.lt
    clear c8 k8
    have c8 : w14.cell? ⟨XB, 8, none⟩ = some (.int .i64 n) := OX.out.cell 8
    have k8 : w14.frozen? ⟨XB, 8, none⟩ = false := OX.out.frozen 8
    have c9 : w14.cell? ⟨XB, 9, none⟩ = some (.int .i64 (f % 16)) := OX.out.cell 9
    have k9 : w14.frozen? ⟨XB, 9, none⟩ = false := OX.out.frozen 9
    have c10 : w14.cell? ⟨XB, 10, none⟩ = some (.bool false) := OX.out.cell 10
    have k10 : w14.frozen? ⟨XB, 10, none⟩ = false := OX.out.frozen 10
    have c11 : w14.cell? ⟨XB, 11, none⟩ = some (.bool false) := OX.out.cell 11
    have k11 : w14.frozen? ⟨XB, 11, none⟩ = false := OX.out.frozen 11
    go_cut [173] from 149 to 173 (fun c wx => c = .bool (!(za || ((n32 && a8) || (n16 && a1)))) ∧ wx = w14)
    case first =>
      cases za
      · cases n32
        · cases n16
          · (go_wp2_with fail; go_meet; exact ⟨rfl, rfl⟩)
          · cases a1 <;> (go_wp2_with fail; go_meet; exact ⟨rfl, rfl⟩)
        · cases a8
          · cases n16
            · (go_wp2_with fail; go_meet; exact ⟨rfl, rfl⟩)
            · cases a1 <;> (go_wp2_with fail; go_meet; exact ⟨rfl, rfl⟩)
          · (go_wp2_with fail; go_meet; exact ⟨rfl, rfl⟩)
      · (go_wp2_with fail; go_meet; exact ⟨rfl, rfl⟩)
    case rest =>
    obtain ⟨rfl, rfl⟩ := hcut
    obtain ⟨w14, rfl⟩ : ∃ x, x = wc := ⟨_, rfl⟩
    rw [HAL.out]
    cases al
    · skip
      go_upto_region 34 with (first | (go_at_call 70; (with_reducible refine (HR7.out _).mono ?_); rintro e w2 ⟨rfl, rfl⟩) | (go_at_call 70; (with_reducible refine (HRN.out _).mono ?_); rintro e w2 ⟨rfl, rfl⟩))
      go_wp2_with (first
        | (go_at_call 74; (with_reducible refine (HBD.out _ _ _).mono ?_); rintro e w2 ⟨rfl, hb2⟩)
        | (go_at_call 70; (with_reducible refine (HR7.out _).mono ?_); rintro e w2 ⟨rfl, rfl⟩)
        | (go_at_call 70; (with_reducible refine (HRN.out _).mono ?_); rintro e w2 ⟨rfl, rfl⟩)
        | (refine store_o rfl 50 14 _ _ rfl w.heap.size (rBad16 2 17) rfl rfl (by kernel_rfl) (by kernel_rfl) (by kernel_rfl) (ORX.out.below hb2 RLT) rfl ?_; intro w3 hst hO; have HO := Lib.hid hO; have B := Lib.hid (hst.below (bthen hb2 BRX.out RLE) (Nat.le_refl _)); clear hst hO; refine gen_frame 2 (.pointer (some ⟨w.heap.size, 0, none⟩)) (by kernel_rfl) (by kernel_rfl) ?_; intro A hA hAd))
      refine bodyPost_ret (v := .agg (rBad16 2 17).toArray) ?_ hAd ⟨by rw [E.out]; rfl, B.out⟩
      exact results_c Try.results32 _ _ _ (rBad16 2 17) _ hA HO.out.range0 Try.underlying50 rfl (by kernel_rfl)
    go_upto_region 37 with (fail)
    clear c8 c9 c10 c11 k8 k9 k10 k11
    have OX := Lib.hid (show Obj1 (((w14.setCell ⟨XB, 10, none⟩ (.bool (f / 16 % 2 == 1))).setCell ⟨XB, 11, none⟩ (.bool (f / 32 % 2 == 1)))) XB #[.int .i64 x0, .int .i64 x1, .int .i64 t, .int .i64 FI, .int .i64 C, .int .i64 x7, .int .i64 W, .int .i64 H, .int .i64 n, .int .i64 (f % 16), .bool (f / 16 % 2 == 1), .bool (f / 32 % 2 == 1), .int .i64 0, .int .i64 0] 50 from (OX.out.set 10 (.bool (f / 16 % 2 == 1))).set 11 (.bool (f / 32 % 2 == 1)))
    have ORX := Lib.hid (show Obj1 (((w14.setCell ⟨XB, 10, none⟩ (.bool (f / 16 % 2 == 1))).setCell ⟨XB, 11, none⟩ (.bool (f / 32 % 2 == 1)))) w.heap.size _ 50 from (ORX.out.set_other _ _ RNE).set_other _ _ RNE)
    have BRX := Lib.hid (show Below w.heap.size w (((w14.setCell ⟨XB, 10, none⟩ (.bool (f / 16 % 2 == 1))).setCell ⟨XB, 11, none⟩ (.bool (f / 32 % 2 == 1)))) from (BRX.out.setCell RXE _).setCell RXE _)
    generalize hwx : World.setCell _ _ _ = w40 at OX ORX BRX ⊢
    clear hwx
    go_wp2_with (first
      | (refine load_o rfl 50 14 _ rfl XB [.int .i64 x0, .int .i64 x1, .int .i64 t, .int .i64 FI, .int .i64 C, .int .i64 x7, .int .i64 W, .int .i64 H, .int .i64 n, .int .i64 (f % 16), .bool (f / 16 % 2 == 1), .bool (f / 32 % 2 == 1), .int .i64 0, .int .i64 0] rfl (by kernel_rfl) OX.out Try.underlying50 rfl (by kernel_rfl) ?_)
      | (refine store_o rfl 50 14 _ _ rfl w.heap.size [.int .i64 x0, .int .i64 x1, .int .i64 t, .int .i64 FI, .int .i64 C, .int .i64 x7, .int .i64 W, .int .i64 H, .int .i64 n, .int .i64 (f % 16), .bool (f / 16 % 2 == 1), .bool (f / 32 % 2 == 1), .int .i64 0, .int .i64 0] rfl rfl (by kernel_rfl) (by kernel_rfl) (by kernel_rfl) ORX.out rfl ?_; intro w3 hst hO; have HO := Lib.hid hO; have B := Lib.hid (hst.below BRX.out (Nat.le_refl _)); clear hst hO; refine gen_frame 2 (.pointer (some ⟨w.heap.size, 0, none⟩)) (by kernel_rfl) (by kernel_rfl) ?_; intro A hA hAd))
    refine bodyPost_ret (v := .agg [.int .i64 x0, .int .i64 x1, .int .i64 t, .int .i64 FI, .int .i64 C, .int .i64 x7, .int .i64 W, .int .i64 H, .int .i64 n, .int .i64 (f % 16), .bool (f / 16 % 2 == 1), .bool (f / 32 % 2 == 1), .int .i64 0, .int .i64 0].toArray) ?_ hAd ⟨by rw [E.out]; rfl, B.out⟩
    exact results_c Try.results32 _ _ _ [.int .i64 x0, .int .i64 x1, .int .i64 t, .int .i64 FI, .int .i64 C, .int .i64 x7, .int .i64 W, .int .i64 H, .int .i64 n, .int .i64 (f % 16), .bool (f / 16 % 2 == 1), .bool (f / 32 % 2 == 1), .int .i64 0, .int .i64 0] _ hA HO.out.range0 Try.underlying50 rfl (by kernel_rfl)
end Go.Proofs.Ytomikbecbbjhoaa

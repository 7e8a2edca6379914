/- IcodirBytes, walked. -/
import Derived.Test.YtomikbecbbjhoaaIE
import Derived.Test.YtomikbecbbjhoaaIF
import Derived.Test.YtomikbecbbjhoaaO1
namespace Go.Proofs.Ytomikbecbbjhoaa
open Go.RowKit
set_option linter.unusedVariables false
set_option linter.unusedSimpArgs false
theorem ents_of {w : World} {a : Option Addr} {n : Nat} (h : Rows64 w a n 6) : ∃ E, EntsAt w a n E := by
  rcases h with h | ⟨B, o, rfl, hB, hc⟩
  · exact ⟨fun _ => Ent.zero, Or.inl h⟩
  · refine ⟨fun i => ⟨intAt w ⟨B, o + i * 6 + 0, none⟩, intAt w ⟨B, o + i * 6 + 1, none⟩, intAt w ⟨B, o + i * 6 + 2, none⟩, intAt w ⟨B, o + i * 6 + 3, none⟩, intAt w ⟨B, o + i * 6 + 4, none⟩, intAt w ⟨B, o + i * 6 + 5, none⟩⟩, Or.inr ⟨B, o, rfl, hB, fun i hi j v hv => ?_⟩⟩
    match j, hv with
    | 0, hv => injection hv with hv; subst hv; exact (hc i hi 0 (by decide)).1
    | 1, hv => injection hv with hv; subst hv; exact (hc i hi 1 (by decide)).1
    | 2, hv => injection hv with hv; subst hv; exact (hc i hi 2 (by decide)).1
    | 3, hv => injection hv with hv; subst hv; exact (hc i hi 3 (by decide)).1
    | 4, hv => injection hv with hv; subst hv; exact (hc i hi 4 (by decide)).1
    | 5, hv => injection hv with hv; subst hv; exact (hc i hi 5 (by decide)).1
    | j + 6, hv => cases hv
theorem right_eq (e : Ent) : e.right = (decide (e.W ≥ 1) && (decide (e.W ≤ 256) && (decide (e.H ≥ 1) && (decide (e.H ≤ 256) && (decide (e.A ≥ 0) && (decide (e.A ≤ 65535) && (decide (e.B ≥ 0) && (decide (e.B ≤ 65535) && (decide (e.Z ≥ 0) && (decide (e.Z ≤ 4294967295) && (decide (e.P ≥ 0) && decide (e.P ≤ 4294967295)))))))))))) := by
  unfold Ent.right withinB
  have h16 : (2 : Int) ^ 16 = 65536 := by decide
  have h32 : (2 : Int) ^ 32 = 4294967296 := by decide
  rw [h16, h32, Bool.eq_iff_iff]
  simp only [Bool.and_eq_true, decide_eq_true_eq]
  omega
theorem goodTo_all (E : Nat → Ent) {i : Nat} : ∀ n, goodTo E n = true → i < n → (E i).right = true
  | 0, _, h => absurd h (by omega)
  | k + 1, hg, h => by
    rw [goodTo, Bool.and_eq_true] at hg
    by_cases hk : i < k
    · exact goodTo_all E k hg.1 hk
    · obtain rfl : i = k := by omega
      exact hg.2
set_option maxRecDepth 100000 in
set_option maxHeartbeats 16000000 in
theorem ibytes_law (cur : Bool) (a : Option Addr) (n c : Nat) {w : World} (h : Rows64 w a n 6 ∧ n ≤ maxLen) (_ : World) : Calls Try.prog 11 #[.bool cur, .slice a n c] w (Yes24 w) := by
  obtain ⟨hrows, hmax⟩ := h
  obtain ⟨E, hE⟩ := ents_of hrows
  unfold maxLen at hmax
  by_cases h1 : 20 < n
  · have D1 : decide ((n : Int) > 20) = true := by rw [decide_eq_true_iff]; omega
    go_enter Try.func11, Try.ntmps11
    go_wp2_with (go_at_call 37; (with_reducible refine (awake24 _).mono ?_); rintro x w1 ⟨rfl, hb⟩)
    go_ret
    exact ⟨rfl, hb⟩
  have D1 : decide ((n : Int) > 20) = false := by rw [decide_eq_false_iff_not]; omega
  have n20 : n ≤ 20 := by omega
  have HBY := Lib.hid (ibytes_any cur a n c E w (by omega) hE)
  have HE := Lib.hid hE
  obtain ⟨TS, hTS⟩ : ∃ T, (bif n == 0 || !goodTo E n then ByteArray.empty else strOf (dirB cur n E n)) = T := ⟨_, rfl⟩
  obtain ⟨er, her⟩ : ∃ T : Int, (bif n == 0 || !goodTo E n then 2 else 0) = T := ⟨_, rfl⟩
  have HBY := Lib.hid (show Calls Try.prog 44 #[.bool cur, .slice a n c] w (fun x w' => x = .returned (.tuple #[.string TS, .int .i64 er]) ∧ Below w.heap.size w w') from HBY.out.mono fun x w' hh => ⟨hh.1.trans (by rw [hTS, her]), hh.2⟩)
  obtain ⟨m0, hm0⟩ : ∃ b, decide (0 < n) = b := ⟨_, rfl⟩
  have HT := Lib.hid hTS
  have HR := Lib.hid her
  have HM := Lib.hid (show (n == 0) = !m0 by rw [← hm0, Bool.eq_iff_iff]; simp <;> omega)
  clear hrows hmax h1 hE hTS her
  go_enter Try.func11, Try.ntmps11
  go_wp2_with ((go_at_call 44; (with_reducible refine (HBY.out).mono ?_); rintro x w1 ⟨rfl, hb⟩); have HB := Lib.hid hb; clear hb)
  clear HBY
  go_loopw [7, 9, 29] (fun q7 q9 c wr => ∃ i : Nat, i ≤ n ∧ c = .int .i64 i ∧ q7 = .bool (m0 && goodTo E i) ∧ Below w.heap.size w wr) (fun _ _ c _ => n - (intOf c).toNat)
  case atStart => exact ⟨0, by omega, rfl, by rw [goodTo, Bool.and_true] <;> first | rfl | rw [hm0], HB.out⟩
  case round =>
    obtain ⟨i, hi, rfl, rfl, hb⟩ := hrel
    have HB := Lib.hid hb
    have zw := hb.size
    clear hb
    by_cases hlt : i < n
    · have hge : ¬ n ≤ i := by omega
      obtain ⟨B, o, rfl, hBl, hcs⟩ := HE.out.resolve_left (by omega)
      obtain ⟨e, he⟩ : ∃ e, E i = e := ⟨_, rfl⟩
      have hR := Lib.hid (range_below (he ▸ hcs i hlt) HB.out hBl)
      have HG := Lib.hid (show goodTo E (i + 1) = (goodTo E i && e.right) by rw [goodTo, he])
      clear hcs he
      obtain ⟨may, hmay⟩ : ∃ b, (m0 && goodTo E i) = b := ⟨_, rfl⟩
      rw [hmay]
      have HMY := Lib.hid hmay
      clear hmay
      have O9 := Lib.hid (obj1_new wr #[.int .i64 0, .int .i64 0, .int .i64 0, .int .i64 0, .int .i64 0, .int .i64 0] 59)
      have HB := Lib.hid (HB.out.alloc zw (.cells #[.int .i64 0, .int .i64 0, .int .i64 0, .int .i64 0, .int .i64 0, .int .i64 0] 59))
      go_upto_region 8 with (first
        | (refine load_r rfl 59 _ rfl B (o + i * 6) e.cells rfl hR.out Try.underlying59 rfl (by kernel_rfl) ?_; intro _)
        | (refine store_o rfl 59 6 _ _ rfl wr.heap.size e.cells rfl rfl (by kernel_rfl) (by kernel_rfl) (by kernel_rfl) O9.out (by first | rfl | simp) ?_; intro ws hst hO; have O9 := Lib.hid hO; have HB := Lib.hid (hst.below HB.out zw); clear hst hO))
      have k0 : ws.cell? ⟨wr.heap.size, 0, none⟩ = some (.int .i64 e.W) := (O9.out.cell 0).trans rfl
      have k1 : ws.cell? ⟨wr.heap.size, 1, none⟩ = some (.int .i64 e.H) := (O9.out.cell 1).trans rfl
      have k2 : ws.cell? ⟨wr.heap.size, 2, none⟩ = some (.int .i64 e.A) := (O9.out.cell 2).trans rfl
      have k3 : ws.cell? ⟨wr.heap.size, 3, none⟩ = some (.int .i64 e.B) := (O9.out.cell 3).trans rfl
      have k4 : ws.cell? ⟨wr.heap.size, 4, none⟩ = some (.int .i64 e.Z) := (O9.out.cell 4).trans rfl
      have k5 : ws.cell? ⟨wr.heap.size, 5, none⟩ = some (.int .i64 e.P) := (O9.out.cell 5).trans rfl
      have E0 := right_eq e
      obtain ⟨c1, hc1⟩ : ∃ b, decide (e.W ≥ 1) = b := ⟨_, rfl⟩
      rw [hc1] at E0
      obtain ⟨c2, hc2⟩ : ∃ b, decide (e.W ≤ 256) = b := ⟨_, rfl⟩
      rw [hc2] at E0
      obtain ⟨c3, hc3⟩ : ∃ b, decide (e.H ≥ 1) = b := ⟨_, rfl⟩
      rw [hc3] at E0
      obtain ⟨c4, hc4⟩ : ∃ b, decide (e.H ≤ 256) = b := ⟨_, rfl⟩
      rw [hc4] at E0
      obtain ⟨c5, hc5⟩ : ∃ b, decide (e.A ≥ 0) = b := ⟨_, rfl⟩
      rw [hc5] at E0
      obtain ⟨c6, hc6⟩ : ∃ b, decide (e.A ≤ 65535) = b := ⟨_, rfl⟩
      rw [hc6] at E0
      obtain ⟨c7, hc7⟩ : ∃ b, decide (e.B ≥ 0) = b := ⟨_, rfl⟩
      rw [hc7] at E0
      obtain ⟨c8, hc8⟩ : ∃ b, decide (e.B ≤ 65535) = b := ⟨_, rfl⟩
      rw [hc8] at E0
      obtain ⟨c9, hc9⟩ : ∃ b, decide (e.Z ≥ 0) = b := ⟨_, rfl⟩
      rw [hc9] at E0
      obtain ⟨c10, hc10⟩ : ∃ b, decide (e.Z ≤ 4294967295) = b := ⟨_, rfl⟩
      rw [hc10] at E0
      obtain ⟨c11, hc11⟩ : ∃ b, decide (e.P ≥ 0) = b := ⟨_, rfl⟩
      rw [hc11] at E0
      obtain ⟨c12, hc12⟩ : ∃ b, decide (e.P ≤ 4294967295) = b := ⟨_, rfl⟩
      rw [hc12] at E0
      have E1 := Lib.hid E0
      clear E0 HT HR HM HE hR O9 hm0
      cases may
      · skip
        go_wp2_with ((with_reducible refine skip_g rfl ?_ ?_); rfl; intro _)
        go_roundw
        case rel => exact ⟨i + 1, by omega, by go_num, by rw [HG.out, ← Bool.and_assoc, HMY.out, E1.out]; rfl, HB.out⟩
        case measure => simp [intOf]; omega
      cases c1
      · skip
        go_wp2_with ((with_reducible refine skip_g rfl ?_ ?_); rfl; intro _)
        go_roundw
        case rel => exact ⟨i + 1, by omega, by go_num, by rw [HG.out, ← Bool.and_assoc, HMY.out, E1.out]; rfl, HB.out⟩
        case measure => simp [intOf]; omega
      cases c2
      · skip
        go_wp2_with ((with_reducible refine skip_g rfl ?_ ?_); rfl; intro _)
        go_roundw
        case rel => exact ⟨i + 1, by omega, by go_num, by rw [HG.out, ← Bool.and_assoc, HMY.out, E1.out]; rfl, HB.out⟩
        case measure => simp [intOf]; omega
      cases c3
      · skip
        go_wp2_with ((with_reducible refine skip_g rfl ?_ ?_); rfl; intro _)
        go_roundw
        case rel => exact ⟨i + 1, by omega, by go_num, by rw [HG.out, ← Bool.and_assoc, HMY.out, E1.out]; rfl, HB.out⟩
        case measure => simp [intOf]; omega
      cases c4
      · skip
        go_wp2_with ((with_reducible refine skip_g rfl ?_ ?_); rfl; intro _)
        go_roundw
        case rel => exact ⟨i + 1, by omega, by go_num, by rw [HG.out, ← Bool.and_assoc, HMY.out, E1.out]; rfl, HB.out⟩
        case measure => simp [intOf]; omega
      cases c5
      · skip
        go_wp2_with ((with_reducible refine skip_g rfl ?_ ?_); rfl; intro _)
        go_roundw
        case rel => exact ⟨i + 1, by omega, by go_num, by rw [HG.out, ← Bool.and_assoc, HMY.out, E1.out]; rfl, HB.out⟩
        case measure => simp [intOf]; omega
      cases c6
      · skip
        go_wp2_with ((with_reducible refine skip_g rfl ?_ ?_); rfl; intro _)
        go_roundw
        case rel => exact ⟨i + 1, by omega, by go_num, by rw [HG.out, ← Bool.and_assoc, HMY.out, E1.out]; rfl, HB.out⟩
        case measure => simp [intOf]; omega
      cases c7
      · skip
        go_wp2_with ((with_reducible refine skip_g rfl ?_ ?_); rfl; intro _)
        go_roundw
        case rel => exact ⟨i + 1, by omega, by go_num, by rw [HG.out, ← Bool.and_assoc, HMY.out, E1.out]; rfl, HB.out⟩
        case measure => simp [intOf]; omega
      cases c8
      · skip
        go_wp2_with ((with_reducible refine skip_g rfl ?_ ?_); rfl; intro _)
        go_roundw
        case rel => exact ⟨i + 1, by omega, by go_num, by rw [HG.out, ← Bool.and_assoc, HMY.out, E1.out]; rfl, HB.out⟩
        case measure => simp [intOf]; omega
      cases c9
      · skip
        go_wp2_with ((with_reducible refine skip_g rfl ?_ ?_); rfl; intro _)
        go_roundw
        case rel => exact ⟨i + 1, by omega, by go_num, by rw [HG.out, ← Bool.and_assoc, HMY.out, E1.out]; rfl, HB.out⟩
        case measure => simp [intOf]; omega
      cases c10
      · skip
        go_wp2_with ((with_reducible refine skip_g rfl ?_ ?_); rfl; intro _)
        go_roundw
        case rel => exact ⟨i + 1, by omega, by go_num, by rw [HG.out, ← Bool.and_assoc, HMY.out, E1.out]; rfl, HB.out⟩
        case measure => simp [intOf]; omega
      cases c11
      · skip
        go_wp2_with ((with_reducible refine skip_g rfl ?_ ?_); rfl; intro _)
        go_roundw
        case rel => exact ⟨i + 1, by omega, by go_num, by rw [HG.out, ← Bool.and_assoc, HMY.out, E1.out]; rfl, HB.out⟩
        case measure => simp [intOf]; omega
      cases c12
      · skip
        go_wp2_with ((with_reducible refine skip_g rfl ?_ ?_); rfl; intro _)
        go_roundw
        case rel => exact ⟨i + 1, by omega, by go_num, by rw [HG.out, ← Bool.and_assoc, HMY.out, E1.out]; rfl, HB.out⟩
        case measure => simp [intOf]; omega
      go_wp2_with ((with_reducible refine skip_g rfl ?_ ?_); rfl; intro _)
      go_roundw
      case rel => exact ⟨i + 1, by omega, by go_num, by rw [HG.out, ← Bool.and_assoc, HMY.out, E1.out]; rfl, HB.out⟩
      case measure => simp [intOf]; omega
    · obtain rfl : i = n := by omega
      have hge : i ≤ i := Nat.le_refl _
      obtain ⟨g, hg⟩ : ∃ b, goodTo E i = b := ⟨_, rfl⟩
      rw [HM.out, hg] at HT HR
      rw [hg]
      cases hmm : (m0 && g) with
      | false =>
        have hb : (!m0 || !g) = true := by cases m0 <;> cases g <;> first | rfl | cases hmm
        rw [hb] at HT HR
        obtain rfl : TS = ByteArray.empty := HT.out.symm
        obtain rfl : er = 2 := HR.out.symm
        clear HT HR
        go_wp2_with (first
          | ((with_reducible refine skip_g rfl ?_ ?_); rfl; intro _)
          | ((go_at_call 37; (with_reducible refine (awake24 _).mono ?_); rintro x w9 ⟨rfl, hb⟩); have HB := Lib.hid (bthen hb HB.out HB.out.size); clear hb))
        go_ret
        exact ⟨rfl, HB.out⟩
      | true =>
        obtain ⟨rfl, rfl⟩ : m0 = true ∧ g = true := by simpa using hmm
        obtain rfl : TS = dirS cur i E := HT.out.symm
        obtain rfl : er = 0 := HR.out.symm
        have hn0 : 0 < i := by have := of_decide_eq_true hm0; omega
        have hsz := dirS_size cur i E
        obtain ⟨f0, f1, f2, f3, f45, -, -⟩ := dirS_front cur i E (by omega)
        have HIC := Lib.hid (fun w0 => (show Calls Try.prog 41 #[.string (dirS cur i E)] w0 (fun x w' => x = .returned (.bool true) ∧ w' = w0) from (iis_any _ w0 (by omega)).mono fun x w' hh => ⟨hh.1.trans (by rw [dirS_ico cur i E hn0 (by omega)]), hh.2⟩))
        have HLE := Lib.hid (fun w0 => le_low (dirS cur i E) 4 6 2 (i : Int) w0 rfl (by omega) (by omega) f45)
        have HBK := Lib.hid (fun k hk => dirS_back cur i E k hk (goodTo_all E i hg hk))
        clear HT HR hmm HM hg
        obtain ⟨S, hS⟩ : ∃ S, dirS cur i E = S := ⟨_, rfl⟩
        rw [hS] at hsz f0 f1 f2 f3 HIC HLE HBK ⊢
        have q6 : (6 : Int) ≤ S.size := by omega
        have i0 : 0 < S.size := by omega
        have i1 : 1 < S.size := by omega
        have i2 : 2 < S.size := by omega
        have i3 : 3 < S.size := by omega
        have g0 := byN_get S 0 i0
        have g1 := byN_get S 1 i1
        have g2 := byN_get S 2 i2
        have g3 := byN_get S 3 i3
        rw [f0] at g0; rw [f1] at g1; rw [f2] at g2; rw [f3] at g3
        have eW1 : IntKind.i64.wrap (16 * (i : Int)) = 16 * (i : Int) := i64_wraps _ (by omega) (by omega)
        have eW2 : IntKind.i64.wrap (6 + 16 * (i : Int)) = 6 + 16 * (i : Int) := i64_wraps _ (by omega) (by omega)
        have eSZ : (S.size : Int) = 6 + 16 * (i : Int) := by omega
        have HSZ := Lib.hid hsz
        clear hS f0 f1 f2 f3 hsz hm0
        cases cur
        all_goals
          simp only [cond_true, cond_false] at g2
          go_wp2_with ((go_at_call 45; (with_reducible refine (HLE.out _).mono ?_); rintro x w2 ⟨rfl, rfl⟩))
          go_loopw [10, 11, 12, 13, 156] (fun q10 q11 q12 q13 c wr => ∃ j : Nat, j ≤ i ∧ c = .int .i64 j ∧ Below w.heap.size w wr) (fun _ _ _ _ c _ => i - (intOf c).toNat)
          case atStart => exact ⟨0, by omega, rfl, HB.out⟩
          case round =>
            obtain ⟨j, hj, rfl, hb⟩ := hrel
            have HB := Lib.hid hb
            have zw := hb.size
            clear hb eSZ eW1 eW2 g0 g1 g2 g3
            by_cases hlt : j < i
            rotate_left
            · have hge : i ≤ j := by omega
              go_wp2_with (first
                | ((go_at_call 41; (with_reducible refine (HIC.out _).mono ?_); rintro x w8 ⟨rfl, rfl⟩))
                | ((go_at_call 37; (with_reducible refine (awake24 _).mono ?_); rintro x w9 ⟨rfl, hb⟩); have HB := Lib.hid (bthen hb HB.out HB.out.size); clear hb))
              go_ret
              exact ⟨rfl, HB.out⟩
            · have hge : ¬ i ≤ j := by omega
              obtain ⟨B, o, rfl, hBl, hcs⟩ := HE.out.resolve_left (by omega)
              have hBK := HBK.out j hlt
              obtain ⟨e, he⟩ : ∃ e, E j = e := ⟨_, rfl⟩
              have hR := Lib.hid (range_below (he ▸ hcs j hlt) HB.out hBl)
              rw [he] at hBK
              have HG := Lib.hid (fun w0 => (show Calls Try.prog 42 #[.string S, .int .i64 j] w0 (GetPost w0 [.int .i64 e.W, .int .i64 e.H, .int .i64 e.A, .int .i64 e.B, .int .i64 e.Z, .int .i64 e.P] true) from (iget_yes S j w0 (by have := HSZ.out; omega) (by have := HSZ.out; omega)).mono fun x w' hh => ⟨hh.1.trans (by rw [entL_cells, hBK]; rfl), hh.2⟩))
              have HRG := Lib.hid (fun w0 => (show Calls Try.prog 43 #[.string S, .int .i64 j] w0 (RA w0 [.int .i64 e.W, .int .i64 e.H, .int .i64 e.A, .int .i64 e.B, .int .i64 e.Z, .int .i64 e.P]) from (rget_any S j w0 (by have := HSZ.out; omega) (by have := HSZ.out; omega)).mono fun x w' hh => ⟨hh.1.trans (by rw [entL_cells, hBK]; rfl), hh.2⟩))
              have HPL := Lib.hid (fun w0 => (show Calls Try.prog 40 #[.agg (List.toArray [.int .i64 e.W, .int .i64 e.H, .int .i64 e.A, .int .i64 e.B, .int .i64 e.Z, .int .i64 e.P])] w0 (RA w0 [.int .i64 e.W, .int .i64 e.H, .int .i64 e.A, .int .i64 e.B, .int .i64 e.Z, .int .i64 e.P]) from plain24_any e w0))
              have O11 := Lib.hid (obj1_new wr #[.int .i64 0, .int .i64 0, .int .i64 0, .int .i64 0, .int .i64 0, .int .i64 0] 59)
              have HB := Lib.hid (HB.out.alloc zw (.cells #[.int .i64 0, .int .i64 0, .int .i64 0, .int .i64 0, .int .i64 0, .int .i64 0] 59))
              clear hcs he hBK
              go_upto_region 17 with (first
                | (refine load_r rfl 59 _ rfl B (o + j * 6) [.int .i64 e.W, .int .i64 e.H, .int .i64 e.A, .int .i64 e.B, .int .i64 e.Z, .int .i64 e.P] rfl hR.out Try.underlying59 rfl (by kernel_rfl) ?_; intro _)
                | (refine store_o rfl 59 6 _ _ rfl wr.heap.size [.int .i64 e.W, .int .i64 e.H, .int .i64 e.A, .int .i64 e.B, .int .i64 e.Z, .int .i64 e.P] rfl rfl (by kernel_rfl) (by kernel_rfl) (by kernel_rfl) O11.out (by first | rfl | simp) ?_; intro ws hst hO; have O11 := Lib.hid hO; have HB := Lib.hid (hst.below HB.out zw); clear hst hO))
              have zs := HB.out.size
              have ls := O11.out.lt
              go_upto_region 18 with (first
                | ((go_at_call 42; (with_reducible refine (HG.out _).mono ?_); rintro x w3 ⟨rfl, hb⟩); have hb3 := hb.size; have O12 := Lib.hid (obj1_new w3 #[.int .i64 0, .int .i64 0, .int .i64 0, .int .i64 0, .int .i64 0, .int .i64 0] 59); have O11 := Lib.hid ((O11.out.below hb O11.out.lt).alloc (.cells #[.int .i64 0, .int .i64 0, .int .i64 0, .int .i64 0, .int .i64 0, .int .i64 0] 59)); have HB := Lib.hid ((bthen hb HB.out zs).alloc (by omega) (.cells #[.int .i64 0, .int .i64 0, .int .i64 0, .int .i64 0, .int .i64 0, .int .i64 0] 59)); clear hb)
                | (refine store_o rfl 59 6 _ _ rfl w3.heap.size [.int .i64 e.W, .int .i64 e.H, .int .i64 e.A, .int .i64 e.B, .int .i64 e.Z, .int .i64 e.P] rfl rfl (by kernel_rfl) (by kernel_rfl) (by kernel_rfl) O12.out (by first | rfl | simp) ?_; intro ws2 hst hO; have O12 := Lib.hid hO; have O11 := Lib.hid (hst.oth O11.out (by omega)); have HB := Lib.hid (hst.below HB.out (by omega)); clear hst hO))
              refine wp_region_noPanic ?_
              refine wp_region_held_drew (S := fun w' => w'.rangeAt w3.heap.size 0 [.int .i64 e.W, .int .i64 e.H, .int .i64 e.A, .int .i64 e.B, .int .i64 e.Z, .int .i64 e.P] ∧ w'.rangeAt wr.heap.size 0 [.int .i64 e.W, .int .i64 e.H, .int .i64 e.A, .int .i64 e.B, .int .i64 e.Z, .int .i64 e.P]) (by kernel_rfl) ⟨O12.out.range0, O11.out.range0⟩ (fun hHeld => ?_)
              refine wpAnyH_take (i := 0) (v := .bool true) rfl (by kernel_rfl) (by kernel_rfl) (by kernel_rfl) (fun _ _ _ h => h) (Or.inl ⟨by rfl, fun w hS => by go_simp⟩) hHeld ?_
              simp only [Act.put, List.setIfInBounds_toArray, List.set_cons_zero, List.set_cons_succ, List.getElem_toArray, List.getElem_cons_zero, List.getElem_cons_succ]
              refine wpAnyH_take (i := 1) (v := .bool false) rfl (by kernel_rfl) (by kernel_rfl) (by kernel_rfl) (fun _ _ _ h => h) (Or.inl ⟨by rfl, fun w hS => by go_simp⟩) hHeld ?_
              simp only [Act.put, List.setIfInBounds_toArray, List.set_cons_zero, List.set_cons_succ, List.getElem_toArray, List.getElem_cons_zero, List.getElem_cons_succ]
              refine wpAnyH_take (i := 2) (v := .bool false) rfl (by kernel_rfl) (by kernel_rfl) (by kernel_rfl) (fun _ _ _ h => h) (Or.inl ⟨by rfl, fun w hS => by go_simp⟩) hHeld ?_
              simp only [Act.put, List.setIfInBounds_toArray, List.set_cons_zero, List.set_cons_succ, List.getElem_toArray, List.getElem_cons_zero, List.getElem_cons_succ]
              refine wpAnyH_take (i := 3) rfl (by kernel_rfl) (by kernel_rfl) (by kernel_rfl) (fun _ _ _ h => h) (yieldsIf_load_mid (by rfl) 59 _ rfl (w3.heap.size) 0 rfl [.int .i64 e.W, .int .i64 e.H, .int .i64 e.A, .int .i64 e.B, .int .i64 e.Z, .int .i64 e.P] _ (fun _ h => h.1) Try.underlying59 rfl (by kernel_rfl)) hHeld ?_
              simp only [Act.put, List.setIfInBounds_toArray, List.set_cons_zero, List.set_cons_succ, List.getElem_toArray, List.getElem_cons_zero, List.getElem_cons_succ]
              refine wpAnyH_take (i := 4) rfl (by kernel_rfl) (by kernel_rfl) (by kernel_rfl) (fun _ _ _ h => h) (yieldsIf_load_mid (by rfl) 59 _ rfl (wr.heap.size) 0 rfl [.int .i64 e.W, .int .i64 e.H, .int .i64 e.A, .int .i64 e.B, .int .i64 e.Z, .int .i64 e.P] _ (fun _ h => h.2) Try.underlying59 rfl (by kernel_rfl)) hHeld ?_
              simp only [Act.put, List.setIfInBounds_toArray, List.set_cons_zero, List.set_cons_succ, List.getElem_toArray, List.getElem_cons_zero, List.getElem_cons_succ]
              refine wpAnyH_take (i := 5) (v := .bool false) rfl (by kernel_rfl) (by kernel_rfl) (by kernel_rfl) (fun _ _ _ h => h) (Or.inl ⟨by rfl, fun w hS => by go_simp⟩) hHeld ?_
              simp only [Act.put, List.setIfInBounds_toArray, List.set_cons_zero, List.set_cons_succ, List.getElem_toArray, List.getElem_cons_zero, List.getElem_cons_succ]
              refine wpAnyH_take (i := 6) (v := .bool false) rfl (by kernel_rfl) (by kernel_rfl) (by kernel_rfl) (fun _ _ _ h => h) (Or.inl ⟨by rfl, fun w hS => by go_simp⟩) hHeld ?_
              simp only [Act.put, List.setIfInBounds_toArray, List.set_cons_zero, List.set_cons_succ, List.getElem_toArray, List.getElem_cons_zero, List.getElem_cons_succ]
              refine wpAnyH_take (i := 7) (v := .bool false) rfl (by kernel_rfl) (by kernel_rfl) (by kernel_rfl) (fun _ _ _ h => h) (Or.inl ⟨by rfl, fun w hS => by go_simp⟩) hHeld ?_
              simp only [Act.put, List.setIfInBounds_toArray, List.set_cons_zero, List.set_cons_succ, List.getElem_toArray, List.getElem_cons_zero, List.getElem_cons_succ]
              refine wpAnyH_take (i := 8) (v := .string S) rfl (by kernel_rfl) (by kernel_rfl) (by kernel_rfl) (fun _ _ _ h => h) (Or.inl ⟨by rfl, fun w hS => by go_simp⟩) hHeld ?_
              simp only [Act.put, List.setIfInBounds_toArray, List.set_cons_zero, List.set_cons_succ, List.getElem_toArray, List.getElem_cons_zero, List.getElem_cons_succ]
              refine wpAnyH_take (i := 9) (v := .int .i64 j) rfl (by kernel_rfl) (by kernel_rfl) (by kernel_rfl) (fun _ _ _ h => h) (Or.inl ⟨by rfl, fun w hS => by go_simp⟩) hHeld ?_
              simp only [Act.put, List.setIfInBounds_toArray, List.set_cons_zero, List.set_cons_succ, List.getElem_toArray, List.getElem_cons_zero, List.getElem_cons_succ]
              refine wpAnyH_take (i := 12) rfl (by kernel_rfl) (by kernel_rfl) (by kernel_rfl) (fun _ _ _ h => h) (yieldsIf_load_mid (by rfl) 59 _ rfl (wr.heap.size) 0 rfl [.int .i64 e.W, .int .i64 e.H, .int .i64 e.A, .int .i64 e.B, .int .i64 e.Z, .int .i64 e.P] _ (fun _ h => h.2) Try.underlying59 rfl (by kernel_rfl)) hHeld ?_
              simp only [Act.put, List.setIfInBounds_toArray, List.set_cons_zero, List.set_cons_succ, List.getElem_toArray, List.getElem_cons_zero, List.getElem_cons_succ]
              have O11 := Lib.hid (O11.out.drew)
              have O12 := Lib.hid (O12.out.drew)
              have HB := Lib.hid HB.out.drew
              generalize World.drew _ = wk at O11 O12 HB ⊢
              refine wpAnyH_ready (rs := [10]) (by kernel_rfl) (by simp) ?_
              refine AllReadyH.cons (o := _) rfl (fun K' hK => ?_) AllReadyH.nil
              go_simp
              refine (HRG.out _).mono ?_
              rintro x w5 ⟨rfl, hb⟩
              have O11 := Lib.hid (O11.out.below hb O11.out.lt)
              have O12 := Lib.hid (O12.out.below hb O12.out.lt)
              have HB := Lib.hid (bthen hb HB.out HB.out.size)
              clear hb
              go_wp2_with fail
              refine hK _ _ ⟨O12.out.range0, O11.out.range0⟩ (fun hC1 => ?_)
              clear hK K'
              try simp only [Act.put, List.setIfInBounds_toArray, List.set_cons_zero, List.set_cons_succ, List.getElem_toArray, List.getElem_cons_zero, List.getElem_cons_succ]
              refine wpAnyH_ready (rs := [11]) (by kernel_rfl) (by simp) ?_
              refine AllReadyH.cons (o := _) rfl (fun K' hK => ?_) AllReadyH.nil
              go_simp
              refine (HPL.out _).mono ?_
              rintro x w6 ⟨rfl, hb⟩
              have O11 := Lib.hid (O11.out.below hb O11.out.lt)
              have O12 := Lib.hid (O12.out.below hb O12.out.lt)
              have HB := Lib.hid (bthen hb HB.out HB.out.size)
              clear hb
              go_wp2_with fail
              refine hK _ _ ⟨O12.out.range0, O11.out.range0⟩ (fun hC2 => ?_)
              clear hK K'
              try simp only [Act.put, List.setIfInBounds_toArray, List.set_cons_zero, List.set_cons_succ, List.getElem_toArray, List.getElem_cons_zero, List.getElem_cons_succ]
              refine wpAnyH_take (i := 13) (v := .bool false) rfl (by kernel_rfl) (by kernel_rfl) (by kernel_rfl) (fun _ _ _ h => h) (Or.inl ⟨by rfl, fun w hS => by go_simp⟩) hC2 ?_
              simp only [Act.put, List.setIfInBounds_toArray, List.set_cons_zero, List.set_cons_succ, List.getElem_toArray, List.getElem_cons_zero, List.getElem_cons_succ]
              refine wpAnyH_take (i := 14) (v := .bool false) rfl (by kernel_rfl) (by kernel_rfl) (by kernel_rfl) (fun _ _ _ h => h) (Or.inl ⟨by rfl, fun w hS => by go_simp⟩) hC2 ?_
              simp only [Act.put, List.setIfInBounds_toArray, List.set_cons_zero, List.set_cons_succ, List.getElem_toArray, List.getElem_cons_zero, List.getElem_cons_succ]
              refine wpAnyH_done (by kernel_rfl) ?_ _
              refine NoPanic.normal ?_
              go_wp2_with fail
              go_roundw
              case rel => exact ⟨j + 1, by omega, by go_num, HB.out⟩
              case measure => simp [intOf]; omega
end Go.Proofs.Ytomikbecbbjhoaa

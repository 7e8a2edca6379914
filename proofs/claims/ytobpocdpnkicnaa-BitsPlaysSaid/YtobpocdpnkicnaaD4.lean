/- dibrow.Pack, walked (printed by gen_dpack.py). -/
import Derived.Test.YtobpocdpnkicnaaD1
namespace Go.Proofs.Ytobpocdpnkicnaa
open Go.RowKit
set_option linter.unusedVariables false
set_option maxHeartbeats 2000000 in
theorem dpack_1 (l : List Int) (B : Nat) (o : Nat) (cap : Nat) (w : World) (hB : B < w.heap.size) (hn : l.length ≤ 1000) (hc : ∀ i, i < l.length → w.cell? ⟨B, o + i, none⟩ = some (.int .i64 (l.getD i 0))) :
    Calls Try.prog 24 #[.slice (some ⟨B, o, none⟩) l.length cap, .int .i64 1] w (Packs w (packI l 1)) := by
  have HC := Lib.hid hc
  clear hc
  go_enter Try.func24, Try.ntmps24
  go_wp2
  go_loopw [6, 21] (fun v i wr => ∃ k : Nat, k ≤ l.length ∧ i = .int .i64 k ∧ wr.ownsRow w.heap.size 5 1 v (packF l 1 k).length ((packF l 1 k).map (.int .u8)) ∧ (∀ j, j < k → 0 ≤ l.getD j 0 ∧ l.getD j 0 < 2 ^ 1) ∧ Below w.heap.size w wr) (fun _ i _ => l.length - (intOf i).toNat)
  case atStart => exact ⟨0, by omega, rfl, World.ownsRow_nil _ _ _ _, fun j hj => by omega, Below.refl _ _⟩
  case round =>
    obtain ⟨k, hk, rfl, hown, hz, hb⟩ := hrel
    have hOwn := Lib.hid hown
    have HZ := Lib.hid hz
    have hb' := Lib.hid hb
    have hsz := hb.size
    clear hown hb hz
    by_cases hlt : k < l.length
    · have hck := ((bcell hb'.out).1 B (o + k) hB).trans (HC.out k hlt)
      by_cases hgd : 0 ≤ l.getD k 0 ∧ l.getD k 0 < 2 ^ 1
      rotate_left
      · have PB := Lib.hid (packI_bad l 1 k hlt hgd)
        have hx : l.getD k 0 < 0 ∨ 2 ≤ l.getD k 0 := by omega
        obtain ⟨x, hx'⟩ : ∃ x, l.getD k 0 = x := ⟨_, rfl⟩
        rw [hx'] at hck hx
        clear hgd hx'
        rcases hx with hx | hx
        all_goals
          go_wp2
          go_ret2
          exact ⟨by rw [PB.out]; rfl, hb'.out⟩
      have hgd := Lib.hid hgd
      obtain ⟨g0, g1⟩ := hgd.out
      obtain ⟨x, hx⟩ : ∃ x, l.getD k 0 = x := ⟨_, rfl⟩
      rw [hx] at hck g0 g1 hgd
      have HX := Lib.hid hx
      clear hx
      have g2 : x < 2 := by omega
      clear g1
      skip
      by_cases hat : k * 1 % 8 = 0
      · have ht : (k : Int) % 8 = 0 := by omega
        have HAT := Lib.hid hat
        have hlen : (packF l 1 k).length ≤ 5000 := by rw [packF_len l 1 k (by simp)]; omega
        clear hat
        go_wp2_with (at_builtin; refine app1 rfl (.tmp 56) (.tmp 62) 86 rfl w.heap.size 5 (.int .u8 0) 1 Try.underlying86 (by kernel_rfl) rfl _ _ _ rfl hOwn.out _ rfl _ rfl (by omega) (by unfold maxLen; omega) hsz ?_; intro v' w1 hown1 hB1 hz1; have O1 := Lib.hid hown1; have B1 := Lib.hid hB1; clear hown1 hB1)
        go_roundw
        case rel => exact ⟨k + 1, by omega, by go_num, owns_eq O1.out (by rw [packF_new l 1 k (by decide) HAT.out, HX.out]; simp) (by rw [packF_new l 1 k (by decide) HAT.out, HX.out]; simp <;> omega), good_next HZ.out HX.out hgd.out, B1.out w hb'.out⟩
        case measure => simp [intOf]; omega
      · have hlen : 0 < (packF l 1 k).length ∧ (packF l 1 k).length ≤ 5000 := by rw [packF_len l 1 k (by simp)]; omega
        obtain ⟨P, hP⟩ : ∃ P, packF l 1 k = P := ⟨_, rfl⟩
        obtain ⟨L, hL⟩ : ∃ L, P.length = L := ⟨_, rfl⟩
        have hOwnP := hOwn.out
        rw [hP] at hOwnP hlen
        rw [hL] at hOwnP hlen
        obtain ⟨L0, L1⟩ := hlen
        obtain ⟨g, cp, hv, hg1, hg2, hcp, hcm⟩ := owns_form hOwnP L0
        rw [hv] at hOwnP ⊢
        have hfz := owns_froz hOwnP (L - 1)
        have hcl := owns_cell hOwnP (L - 1) (.int .u8 (P.getD (L - 1) 0)) (by simp [List.getElem?_map, List.getD_eq_getElem?_getD, List.getElem?_eq_getElem (show L - 1 < P.length by omega)])
        have HO := Lib.hid hOwnP
        have HP := Lib.hid hP
        have HL := Lib.hid hL
        have HCP := Lib.hid hcp
        clear hOwnP hP hL hOwn hv hcp hcm
        obtain ⟨y, hy⟩ : ∃ y, P.getD (L - 1) 0 = y := ⟨_, rfl⟩
        rw [hy] at hcl
        have HY := Lib.hid hy
        clear hy
        have HAT := Lib.hid hat
        have i1 : (0 : Int) ≤ (L : Int) - 1 := by omega
        have i2 : (L : Int) - 1 < L := by omega
        have i3 : ((L : Int) - 1).toNat = L - 1 := by omega
        rcases (show k * 1 % 8 = 1 ∨ k * 1 % 8 = 2 ∨ k * 1 % 8 = 3 ∨ k * 1 % 8 = 4 ∨ k * 1 % 8 = 5 ∨ k * 1 % 8 = 6 ∨ k * 1 % 8 = 7 by omega) with ha | ha | ha | ha | ha | ha | ha
        · have HA := Lib.hid ha
          have ht : (k : Int) % 8 = 1 := by omega
          clear ha hat
          go_wp2
          go_region
          go_wp2
          go_roundw
          case rel =>
            refine ⟨k + 1, by omega, by go_num, ?_, good_next HZ.out HX.out hgd.out, (hb'.out.setCell (show w.heap.size ≤ g from hg1) _).drew⟩
            have em : x * 2 ^ (8 - 1 - 1) % 256 = x * 64 := by
              rw [show (2 : Int) ^ (8 - 1 - 1) = 64 by decide]; omega
            rw [packF_old l 1 k (by decide) HAT.out, HX.out, HP.out, HA.out, em]
            unfold orLast
            rw [HL.out, HY.out]
            exact owns_eq (owns_set HO.out (L - 1) (by omega) _) (by simp [HL.out]) (by simp)
          case measure => simp [intOf]; omega
        · have HA := Lib.hid ha
          have ht : (k : Int) % 8 = 2 := by omega
          clear ha hat
          go_wp2
          go_region
          go_wp2
          go_roundw
          case rel =>
            refine ⟨k + 1, by omega, by go_num, ?_, good_next HZ.out HX.out hgd.out, (hb'.out.setCell (show w.heap.size ≤ g from hg1) _).drew⟩
            have em : x * 2 ^ (8 - 1 - 2) % 256 = x * 32 := by
              rw [show (2 : Int) ^ (8 - 1 - 2) = 32 by decide]; omega
            rw [packF_old l 1 k (by decide) HAT.out, HX.out, HP.out, HA.out, em]
            unfold orLast
            rw [HL.out, HY.out]
            exact owns_eq (owns_set HO.out (L - 1) (by omega) _) (by simp [HL.out]) (by simp)
          case measure => simp [intOf]; omega
        · have HA := Lib.hid ha
          have ht : (k : Int) % 8 = 3 := by omega
          clear ha hat
          go_wp2
          go_region
          go_wp2
          go_roundw
          case rel =>
            refine ⟨k + 1, by omega, by go_num, ?_, good_next HZ.out HX.out hgd.out, (hb'.out.setCell (show w.heap.size ≤ g from hg1) _).drew⟩
            have em : x * 2 ^ (8 - 1 - 3) % 256 = x * 16 := by
              rw [show (2 : Int) ^ (8 - 1 - 3) = 16 by decide]; omega
            rw [packF_old l 1 k (by decide) HAT.out, HX.out, HP.out, HA.out, em]
            unfold orLast
            rw [HL.out, HY.out]
            exact owns_eq (owns_set HO.out (L - 1) (by omega) _) (by simp [HL.out]) (by simp)
          case measure => simp [intOf]; omega
        · have HA := Lib.hid ha
          have ht : (k : Int) % 8 = 4 := by omega
          clear ha hat
          go_wp2
          go_region
          go_wp2
          go_roundw
          case rel =>
            refine ⟨k + 1, by omega, by go_num, ?_, good_next HZ.out HX.out hgd.out, (hb'.out.setCell (show w.heap.size ≤ g from hg1) _).drew⟩
            have em : x * 2 ^ (8 - 1 - 4) % 256 = x * 8 := by
              rw [show (2 : Int) ^ (8 - 1 - 4) = 8 by decide]; omega
            rw [packF_old l 1 k (by decide) HAT.out, HX.out, HP.out, HA.out, em]
            unfold orLast
            rw [HL.out, HY.out]
            exact owns_eq (owns_set HO.out (L - 1) (by omega) _) (by simp [HL.out]) (by simp)
          case measure => simp [intOf]; omega
        · have HA := Lib.hid ha
          have ht : (k : Int) % 8 = 5 := by omega
          clear ha hat
          go_wp2
          go_region
          go_wp2
          go_roundw
          case rel =>
            refine ⟨k + 1, by omega, by go_num, ?_, good_next HZ.out HX.out hgd.out, (hb'.out.setCell (show w.heap.size ≤ g from hg1) _).drew⟩
            have em : x * 2 ^ (8 - 1 - 5) % 256 = x * 4 := by
              rw [show (2 : Int) ^ (8 - 1 - 5) = 4 by decide]; omega
            rw [packF_old l 1 k (by decide) HAT.out, HX.out, HP.out, HA.out, em]
            unfold orLast
            rw [HL.out, HY.out]
            exact owns_eq (owns_set HO.out (L - 1) (by omega) _) (by simp [HL.out]) (by simp)
          case measure => simp [intOf]; omega
        · have HA := Lib.hid ha
          have ht : (k : Int) % 8 = 6 := by omega
          clear ha hat
          go_wp2
          go_region
          go_wp2
          go_roundw
          case rel =>
            refine ⟨k + 1, by omega, by go_num, ?_, good_next HZ.out HX.out hgd.out, (hb'.out.setCell (show w.heap.size ≤ g from hg1) _).drew⟩
            have em : x * 2 ^ (8 - 1 - 6) % 256 = x * 2 := by
              rw [show (2 : Int) ^ (8 - 1 - 6) = 2 by decide]; omega
            rw [packF_old l 1 k (by decide) HAT.out, HX.out, HP.out, HA.out, em]
            unfold orLast
            rw [HL.out, HY.out]
            exact owns_eq (owns_set HO.out (L - 1) (by omega) _) (by simp [HL.out]) (by simp)
          case measure => simp [intOf]; omega
        · have HA := Lib.hid ha
          have ht : (k : Int) % 8 = 7 := by omega
          clear ha hat
          go_wp2
          go_region
          go_wp2
          go_roundw
          case rel =>
            refine ⟨k + 1, by omega, by go_num, ?_, good_next HZ.out HX.out hgd.out, (hb'.out.setCell (show w.heap.size ≤ g from hg1) _).drew⟩
            have em : x * 2 ^ (8 - 1 - 7) % 256 = x := by
              rw [show (2 : Int) ^ (8 - 1 - 7) = 1 by decide]; omega
            rw [packF_old l 1 k (by decide) HAT.out, HX.out, HP.out, HA.out, em]
            unfold orLast
            rw [HL.out, HY.out]
            exact owns_eq (owns_set HO.out (L - 1) (by omega) _) (by simp [HL.out]) (by simp)
          case measure => simp [intOf]; omega
    · have hge : l.length ≤ k := by omega
      have PG := Lib.hid (packI_good l 1 (fun j hj => HZ.out j (by omega)))
      obtain ⟨P, hP⟩ : ∃ P, packF l 1 l.length = P := ⟨_, rfl⟩
      have hOwnP := Lib.hid (show wr.ownsRow w.heap.size 5 1 u6 P.length (P.map (.int .u8)) by rw [← hP, ← show k = l.length by omega]; exact hOwn.out)
      have hPl : P.length ≤ 4000 := by rw [← hP, packF_len l 1 _ (by simp)]; omega
      have HP := Lib.hid hP
      clear hP hOwn hsz
      go_wp2
      obtain ⟨wo, rfl⟩ : ∃ wo : World, wo = wr := ⟨_, rfl⟩
      go_loopw [6] (fun v wr => ∃ j : Nat, j ≤ (4 - P.length % 4) % 4 ∧ wr.ownsRow w.heap.size 5 1 v (P ++ List.replicate j 0).length ((P ++ List.replicate j 0).map (.int .u8)) ∧ Below w.heap.size w wr) (fun v _ => P.length + 4 - slLen v)
      case atStart => exact ⟨0, by omega, by simpa using hOwnP.out, hb'.out⟩
      case round =>
        obtain ⟨j, hj, hown, hb⟩ := hrel
        have hOwn2 := Lib.hid hown
        have hb2 := Lib.hid hb
        have hsz2 := hb.size
        obtain ⟨a, cp, hv⟩ := owns_shape hown
        have hcv := owns_string (P := Try.prog) hown 86 9 5 Try.underlying86 Try.underlying5 Try.underlying9
        obtain ⟨L, hL⟩ : ∃ L, (P ++ List.replicate j 0).length = L := ⟨_, rfl⟩
        have hLj : L = P.length + j := by rw [← hL]; simp
        have LJ := Lib.hid hLj
        have hL2 : L ≤ 4004 := by omega
        rw [hL] at hv hOwn2
        rw [hv] at hcv hOwn2
        rw [hv]
        clear hown hb hL
        by_cases hm : L % 4 = 0
        · have ht : ((L : Int) % 4 != 0) = false := by rw [bne_eq_false_iff_eq]; omega
          have PD := Lib.hid (pad_done P j hj (by omega))
          clear hm hLj
          go_wp2
          go_ret2
          exact ⟨by rw [PG.out, PD.out, HP.out]; rfl, hb2.out⟩
        · have ht : ((L : Int) % 4 != 0) = true := by rw [bne_iff_ne]; omega
          clear hcv hLj
          go_wp2_with (at_builtin; refine app1 rfl (.tmp 84) (.tmp 85) 86 rfl w.heap.size 5 (.int .u8 0) 1 Try.underlying86 (by kernel_rfl) rfl _ _ _ rfl hOwn2.out _ rfl _ rfl (by omega) (by unfold maxLen; omega) hsz2 ?_; intro v' w1 hown1 hB1 hz1; have O1 := Lib.hid hown1; have B1 := Lib.hid hB1; clear hown1 hB1)
          go_roundw
          case rel => exact ⟨j + 1, by have := LJ.out; omega, owns_eq O1.out (by have := LJ.out; simp; omega) (by rw [List.replicate_succ']; simp), B1.out w hb2.out⟩
          case measure =>
            have h1 := owns_shape O1.out
            obtain ⟨a', cp', hv'⟩ := h1
            have := LJ.out
            rw [hv']; simp only [slLen]; omega
end Go.Proofs.Ytobpocdpnkicnaa

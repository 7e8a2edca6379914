/- dibrow.Pack, walked (printed by gen_dpack.py). -/
import Derived.Test.YtlfbaggcfaenlaaGreatK1
import Derived.Laws.EntriesVeiled
import Derived.Test.YtlfbaggcfaenlaaGreatK0
import Derived.StillTail
import Derived.StillTailTactics
import Derived.Deep.Quiet
import Derived.BigQuiet
import Derived.Deep.CutRange
import Derived.Deep.RegionHeld3
namespace Go.Proofs.YtlfbaggcfaenlaaGreat
open Go.RowKit
set_option linter.unusedVariables false
set_option maxHeartbeats 2000000 in
theorem dpack_24 (l : List Int) (B : Nat) (o : Nat) (cap : Nat) (w : World) (hB : B < w.heap.size) (hn : l.length ≤ 1000) (hc : ∀ i, i < l.length → w.cell? ⟨B, o + i, none⟩ = some (.int .i64 (l.getD i 0))) :
    Calls Tryz.prog 98 #[.slice (some ⟨B, o, none⟩) l.length cap, .int .i64 24] w (Packs w (packI l 24)) := by
  have HC := Hi hc
  clear hc
  go_enter Tryz.func98, Tryz.ntmps98
  go_wp2
  go_loopw [6, 21] (fun v i wr => ∃ k : Nat, k ≤ l.length ∧ i = .int .i64 k ∧ wr.ownsRow w.heap.size 5 1 v (packF l 24 k).length ((packF l 24 k).map (.int .u8)) ∧ (∀ j, j < k → 0 ≤ l.getD j 0 ∧ l.getD j 0 < 2 ^ 24) ∧ Below w.heap.size w wr) (fun _ i _ => l.length - (intOf i).toNat)
  case atStart => exact ⟨0, by omega, rfl, World.ownsRow_nil _ _ _ _, fun j hj => by omega, Below.refl _ _⟩
  case round =>
    obtain ⟨k, hk, rfl, hown, hz, hb⟩ := hrel
    have hOwn := Hi hown
    have HZ := Hi hz
    have hb' := Hi hb
    have hsz := hb.size
    clear hown hb hz
    by_cases hlt : k < l.length
    · have hck := ((bcell hb'.out).1 B (o + k) hB).trans (HC.out k hlt)
      by_cases hgd : 0 ≤ l.getD k 0 ∧ l.getD k 0 < 2 ^ 24
      rotate_left
      · have PB := Hi (packI_bad l 24 k hlt hgd)
        have hx : l.getD k 0 < 0 ∨ 16777216 ≤ l.getD k 0 := by omega
        obtain ⟨x, hx'⟩ : ∃ x, l.getD k 0 = x := ⟨_, rfl⟩
        rw [hx'] at hck hx
        clear hgd hx'
        rcases hx with hx | hx
        all_goals
          go_wp2
          go_ret2
          exact ⟨by rw [PB.out]; rfl, hb'.out⟩
      have hgd := Hi hgd
      obtain ⟨g0, g1⟩ := hgd.out
      obtain ⟨x, hx⟩ : ∃ x, l.getD k 0 = x := ⟨_, rfl⟩
      rw [hx] at hck g0 g1 hgd
      have HX := Hi hx
      clear hx
      have g2 : x < 16777216 := by omega
      clear g1
      go_wp2
      obtain ⟨wo, rfl⟩ : ∃ wo : World, wo = wr := ⟨_, rfl⟩
      go_loopw [6, 38] (fun v i wr => ∃ j : Nat, j ≤ 3 ∧ i = .int .i64 j ∧ wr.ownsRow w.heap.size 5 1 v (packF l 24 k ++ bytesF x j).length ((packF l 24 k ++ bytesF x j).map (.int .u8)) ∧ Below w.heap.size w wr) (fun _ i _ => 3 - (intOf i).toNat)
      case atStart => exact ⟨0, by omega, rfl, by simpa [bytesF] using hOwn.out, hb'.out⟩
      case round =>
        obtain ⟨j, hj, rfl, hown, hb⟩ := hrel
        have hOwn2 := Hi hown
        have hb2 := Hi hb
        have hsz2 := hb.size
        have hlen : (packF l 24 k ++ bytesF x j).length ≤ 5000 := by rw [List.length_append, bytesF_len, packF_len l 24 k (by simp)]; omega
        clear hown hb hsz hck
        by_cases hjl : j < 3
        · go_wp2_with (at_builtin; refine app1 rfl (.tmp 41) (.tmp 47) 61 rfl w.heap.size 5 (.int .u8 0) 1 Tryz.underlying61 (by kernel_rfl) rfl _ _ _ rfl hOwn2.out _ rfl _ rfl (by omega) (by unfold maxLen; omega) hsz2 ?_; intro v' w1 hown1 hB1 hz1; have O1 := Hi hown1; have B1 := Hi hB1; clear hown1 hB1)
          go_roundw
          case rel => exact ⟨j + 1, by omega, by go_num, owns_eq O1.out (by simp [bytesF_succ]; omega) (by simp [bytesF_succ, byteAt]), B1.out w hb2.out⟩
          case measure => simp [intOf]; omega
        · have hj2 : 3 ≤ j := by omega
          go_wp2
          go_roundw
          case rel => exact ⟨k + 1, by omega, by go_num, owns_eq hOwn2.out (by rw [packF_wide l 24 k (by decide), HX.out, show j = 3 by omega]) (by rw [packF_wide l 24 k (by decide), HX.out, show j = 3 by omega]), good_next HZ.out HX.out hgd.out, hb2.out⟩
          case measure => simp [intOf]; omega
    · have hge : l.length ≤ k := by omega
      have PG := Hi (packI_good l 24 (fun j hj => HZ.out j (by omega)))
      obtain ⟨P, hP⟩ : ∃ P, packF l 24 l.length = P := ⟨_, rfl⟩
      have hOwnP := Hi (show wr.ownsRow w.heap.size 5 1 u6 P.length (P.map (.int .u8)) by rw [← hP, ← show k = l.length by omega]; exact hOwn.out)
      have hPl : P.length ≤ 4000 := by rw [← hP, packF_len l 24 _ (by simp)]; omega
      have HP := Hi hP
      clear hP hOwn hsz
      go_wp2
      obtain ⟨wo, rfl⟩ : ∃ wo : World, wo = wr := ⟨_, rfl⟩
      go_loopw [6] (fun v wr => ∃ j : Nat, j ≤ (4 - P.length % 4) % 4 ∧ wr.ownsRow w.heap.size 5 1 v (P ++ List.replicate j 0).length ((P ++ List.replicate j 0).map (.int .u8)) ∧ Below w.heap.size w wr) (fun v _ => P.length + 4 - slLen v)
      case atStart => exact ⟨0, by omega, by simpa using hOwnP.out, hb'.out⟩
      case round =>
        obtain ⟨j, hj, hown, hb⟩ := hrel
        have hOwn2 := Hi hown
        have hb2 := Hi hb
        have hsz2 := hb.size
        obtain ⟨a, cp, hv⟩ := owns_shape hown
        have hcv := owns_string (P := Tryz.prog) hown 61 9 5 Tryz.underlying61 Tryz.underlying5 Tryz.underlying9
        obtain ⟨L, hL⟩ : ∃ L, (P ++ List.replicate j 0).length = L := ⟨_, rfl⟩
        have hLj : L = P.length + j := by rw [← hL]; simp
        have LJ := Hi hLj
        have hL2 : L ≤ 4004 := by omega
        rw [hL] at hv hOwn2
        rw [hv] at hcv hOwn2
        rw [hv]
        clear hown hb hL
        by_cases hm : L % 4 = 0
        · have ht : ((L : Int) % 4 != 0) = false := by rw [bne_eq_false_iff_eq]; omega
          have PD := Hi (pad_done P j hj (by omega))
          clear hm hLj
          go_wp2
          go_ret2
          exact ⟨by rw [PG.out, PD.out, HP.out]; rfl, hb2.out⟩
        · have ht : ((L : Int) % 4 != 0) = true := by rw [bne_iff_ne]; omega
          clear hcv hLj
          go_wp2_with (at_builtin; refine app1 rfl (.tmp 84) (.tmp 85) 61 rfl w.heap.size 5 (.int .u8 0) 1 Tryz.underlying61 (by kernel_rfl) rfl _ _ _ rfl hOwn2.out _ rfl _ rfl (by omega) (by unfold maxLen; omega) hsz2 ?_; intro v' w1 hown1 hB1 hz1; have O1 := Hi hown1; have B1 := Hi hB1; clear hown1 hB1)
          go_roundw
          case rel => exact ⟨j + 1, by have := LJ.out; omega, owns_eq O1.out (by have := LJ.out; simp; omega) (by rw [List.replicate_succ']; simp), B1.out w hb2.out⟩
          case measure =>
            have h1 := owns_shape O1.out
            obtain ⟨a', cp', hv'⟩ := h1
            have := LJ.out
            rw [hv']; simp only [slLen]; omega
set_option maxHeartbeats 2000000 in
theorem dpack_32 (l : List Int) (B : Nat) (o : Nat) (cap : Nat) (w : World) (hB : B < w.heap.size) (hn : l.length ≤ 1000) (hc : ∀ i, i < l.length → w.cell? ⟨B, o + i, none⟩ = some (.int .i64 (l.getD i 0))) :
    Calls Tryz.prog 98 #[.slice (some ⟨B, o, none⟩) l.length cap, .int .i64 32] w (Packs w (packI l 32)) := by
  have HC := Hi hc
  clear hc
  go_enter Tryz.func98, Tryz.ntmps98
  go_wp2
  go_loopw [6, 21] (fun v i wr => ∃ k : Nat, k ≤ l.length ∧ i = .int .i64 k ∧ wr.ownsRow w.heap.size 5 1 v (packF l 32 k).length ((packF l 32 k).map (.int .u8)) ∧ (∀ j, j < k → 0 ≤ l.getD j 0 ∧ l.getD j 0 < 2 ^ 32) ∧ Below w.heap.size w wr) (fun _ i _ => l.length - (intOf i).toNat)
  case atStart => exact ⟨0, by omega, rfl, World.ownsRow_nil _ _ _ _, fun j hj => by omega, Below.refl _ _⟩
  case round =>
    obtain ⟨k, hk, rfl, hown, hz, hb⟩ := hrel
    have hOwn := Hi hown
    have HZ := Hi hz
    have hb' := Hi hb
    have hsz := hb.size
    clear hown hb hz
    by_cases hlt : k < l.length
    · have hck := ((bcell hb'.out).1 B (o + k) hB).trans (HC.out k hlt)
      by_cases hgd : 0 ≤ l.getD k 0 ∧ l.getD k 0 < 2 ^ 32
      rotate_left
      · have PB := Hi (packI_bad l 32 k hlt hgd)
        have hx : l.getD k 0 < 0 ∨ 4294967296 ≤ l.getD k 0 := by omega
        obtain ⟨x, hx'⟩ : ∃ x, l.getD k 0 = x := ⟨_, rfl⟩
        rw [hx'] at hck hx
        clear hgd hx'
        rcases hx with hx | hx
        all_goals
          go_wp2
          go_ret2
          exact ⟨by rw [PB.out]; rfl, hb'.out⟩
      have hgd := Hi hgd
      obtain ⟨g0, g1⟩ := hgd.out
      obtain ⟨x, hx⟩ : ∃ x, l.getD k 0 = x := ⟨_, rfl⟩
      rw [hx] at hck g0 g1 hgd
      have HX := Hi hx
      clear hx
      have g2 : x < 4294967296 := by omega
      clear g1
      go_wp2
      obtain ⟨wo, rfl⟩ : ∃ wo : World, wo = wr := ⟨_, rfl⟩
      go_loopw [6, 38] (fun v i wr => ∃ j : Nat, j ≤ 4 ∧ i = .int .i64 j ∧ wr.ownsRow w.heap.size 5 1 v (packF l 32 k ++ bytesF x j).length ((packF l 32 k ++ bytesF x j).map (.int .u8)) ∧ Below w.heap.size w wr) (fun _ i _ => 4 - (intOf i).toNat)
      case atStart => exact ⟨0, by omega, rfl, by simpa [bytesF] using hOwn.out, hb'.out⟩
      case round =>
        obtain ⟨j, hj, rfl, hown, hb⟩ := hrel
        have hOwn2 := Hi hown
        have hb2 := Hi hb
        have hsz2 := hb.size
        have hlen : (packF l 32 k ++ bytesF x j).length ≤ 5000 := by rw [List.length_append, bytesF_len, packF_len l 32 k (by simp)]; omega
        clear hown hb hsz hck
        by_cases hjl : j < 4
        · go_wp2_with (at_builtin; refine app1 rfl (.tmp 41) (.tmp 47) 61 rfl w.heap.size 5 (.int .u8 0) 1 Tryz.underlying61 (by kernel_rfl) rfl _ _ _ rfl hOwn2.out _ rfl _ rfl (by omega) (by unfold maxLen; omega) hsz2 ?_; intro v' w1 hown1 hB1 hz1; have O1 := Hi hown1; have B1 := Hi hB1; clear hown1 hB1)
          go_roundw
          case rel => exact ⟨j + 1, by omega, by go_num, owns_eq O1.out (by simp [bytesF_succ]; omega) (by simp [bytesF_succ, byteAt]), B1.out w hb2.out⟩
          case measure => simp [intOf]; omega
        · have hj2 : 4 ≤ j := by omega
          go_wp2
          go_roundw
          case rel => exact ⟨k + 1, by omega, by go_num, owns_eq hOwn2.out (by rw [packF_wide l 32 k (by decide), HX.out, show j = 4 by omega]) (by rw [packF_wide l 32 k (by decide), HX.out, show j = 4 by omega]), good_next HZ.out HX.out hgd.out, hb2.out⟩
          case measure => simp [intOf]; omega
    · have hge : l.length ≤ k := by omega
      have PG := Hi (packI_good l 32 (fun j hj => HZ.out j (by omega)))
      obtain ⟨P, hP⟩ : ∃ P, packF l 32 l.length = P := ⟨_, rfl⟩
      have hOwnP := Hi (show wr.ownsRow w.heap.size 5 1 u6 P.length (P.map (.int .u8)) by rw [← hP, ← show k = l.length by omega]; exact hOwn.out)
      have hPl : P.length ≤ 4000 := by rw [← hP, packF_len l 32 _ (by simp)]; omega
      have HP := Hi hP
      clear hP hOwn hsz
      go_wp2
      obtain ⟨wo, rfl⟩ : ∃ wo : World, wo = wr := ⟨_, rfl⟩
      go_loopw [6] (fun v wr => ∃ j : Nat, j ≤ (4 - P.length % 4) % 4 ∧ wr.ownsRow w.heap.size 5 1 v (P ++ List.replicate j 0).length ((P ++ List.replicate j 0).map (.int .u8)) ∧ Below w.heap.size w wr) (fun v _ => P.length + 4 - slLen v)
      case atStart => exact ⟨0, by omega, by simpa using hOwnP.out, hb'.out⟩
      case round =>
        obtain ⟨j, hj, hown, hb⟩ := hrel
        have hOwn2 := Hi hown
        have hb2 := Hi hb
        have hsz2 := hb.size
        obtain ⟨a, cp, hv⟩ := owns_shape hown
        have hcv := owns_string (P := Tryz.prog) hown 61 9 5 Tryz.underlying61 Tryz.underlying5 Tryz.underlying9
        obtain ⟨L, hL⟩ : ∃ L, (P ++ List.replicate j 0).length = L := ⟨_, rfl⟩
        have hLj : L = P.length + j := by rw [← hL]; simp
        have LJ := Hi hLj
        have hL2 : L ≤ 4004 := by omega
        rw [hL] at hv hOwn2
        rw [hv] at hcv hOwn2
        rw [hv]
        clear hown hb hL
        by_cases hm : L % 4 = 0
        · have ht : ((L : Int) % 4 != 0) = false := by rw [bne_eq_false_iff_eq]; omega
          have PD := Hi (pad_done P j hj (by omega))
          clear hm hLj
          go_wp2
          go_ret2
          exact ⟨by rw [PG.out, PD.out, HP.out]; rfl, hb2.out⟩
        · have ht : ((L : Int) % 4 != 0) = true := by rw [bne_iff_ne]; omega
          clear hcv hLj
          go_wp2_with (at_builtin; refine app1 rfl (.tmp 84) (.tmp 85) 61 rfl w.heap.size 5 (.int .u8 0) 1 Tryz.underlying61 (by kernel_rfl) rfl _ _ _ rfl hOwn2.out _ rfl _ rfl (by omega) (by unfold maxLen; omega) hsz2 ?_; intro v' w1 hown1 hB1 hz1; have O1 := Hi hown1; have B1 := Hi hB1; clear hown1 hB1)
          go_roundw
          case rel => exact ⟨j + 1, by have := LJ.out; omega, owns_eq O1.out (by have := LJ.out; simp; omega) (by rw [List.replicate_succ']; simp), B1.out w hb2.out⟩
          case measure =>
            have h1 := owns_shape O1.out
            obtain ⟨a', cp', hv'⟩ := h1
            have := LJ.out
            rw [hv']; simp only [slLen]; omega
set_option maxHeartbeats 2000000 in
theorem dpack_4 (l : List Int) (B : Nat) (o : Nat) (cap : Nat) (w : World) (hB : B < w.heap.size) (hn : l.length ≤ 1000) (hc : ∀ i, i < l.length → w.cell? ⟨B, o + i, none⟩ = some (.int .i64 (l.getD i 0))) :
    Calls Tryz.prog 98 #[.slice (some ⟨B, o, none⟩) l.length cap, .int .i64 4] w (Packs w (packI l 4)) := by
  have HC := Hi hc
  clear hc
  go_enter Tryz.func98, Tryz.ntmps98
  go_wp2
  go_loopw [6, 21] (fun v i wr => ∃ k : Nat, k ≤ l.length ∧ i = .int .i64 k ∧ wr.ownsRow w.heap.size 5 1 v (packF l 4 k).length ((packF l 4 k).map (.int .u8)) ∧ (∀ j, j < k → 0 ≤ l.getD j 0 ∧ l.getD j 0 < 2 ^ 4) ∧ Below w.heap.size w wr) (fun _ i _ => l.length - (intOf i).toNat)
  case atStart => exact ⟨0, by omega, rfl, World.ownsRow_nil _ _ _ _, fun j hj => by omega, Below.refl _ _⟩
  case round =>
    obtain ⟨k, hk, rfl, hown, hz, hb⟩ := hrel
    have hOwn := Hi hown
    have HZ := Hi hz
    have hb' := Hi hb
    have hsz := hb.size
    clear hown hb hz
    by_cases hlt : k < l.length
    · have hck := ((bcell hb'.out).1 B (o + k) hB).trans (HC.out k hlt)
      by_cases hgd : 0 ≤ l.getD k 0 ∧ l.getD k 0 < 2 ^ 4
      rotate_left
      · have PB := Hi (packI_bad l 4 k hlt hgd)
        have hx : l.getD k 0 < 0 ∨ 16 ≤ l.getD k 0 := by omega
        obtain ⟨x, hx'⟩ : ∃ x, l.getD k 0 = x := ⟨_, rfl⟩
        rw [hx'] at hck hx
        clear hgd hx'
        rcases hx with hx | hx
        all_goals
          go_wp2
          go_ret2
          exact ⟨by rw [PB.out]; rfl, hb'.out⟩
      have hgd := Hi hgd
      obtain ⟨g0, g1⟩ := hgd.out
      obtain ⟨x, hx⟩ : ∃ x, l.getD k 0 = x := ⟨_, rfl⟩
      rw [hx] at hck g0 g1 hgd
      have HX := Hi hx
      clear hx
      have g2 : x < 16 := by omega
      clear g1
      skip
      by_cases hat : k * 4 % 8 = 0
      · have ht : (k : Int) * 4 % 8 = 0 := by omega
        have HAT := Hi hat
        have hlen : (packF l 4 k).length ≤ 5000 := by rw [packF_len l 4 k (by simp)]; omega
        clear hat
        go_wp2_with (at_builtin; refine app1 rfl (.tmp 56) (.tmp 62) 61 rfl w.heap.size 5 (.int .u8 0) 1 Tryz.underlying61 (by kernel_rfl) rfl _ _ _ rfl hOwn.out _ rfl _ rfl (by omega) (by unfold maxLen; omega) hsz ?_; intro v' w1 hown1 hB1 hz1; have O1 := Hi hown1; have B1 := Hi hB1; clear hown1 hB1)
        go_roundw
        case rel => exact ⟨k + 1, by omega, by go_num, owns_eq O1.out (by rw [packF_new l 4 k (by decide) HAT.out, HX.out]; simp) (by rw [packF_new l 4 k (by decide) HAT.out, HX.out]; simp <;> omega), good_next HZ.out HX.out hgd.out, B1.out w hb'.out⟩
        case measure => simp [intOf]; omega
      · have hlen : 0 < (packF l 4 k).length ∧ (packF l 4 k).length ≤ 5000 := by rw [packF_len l 4 k (by simp)]; omega
        obtain ⟨P, hP⟩ : ∃ P, packF l 4 k = P := ⟨_, rfl⟩
        obtain ⟨L, hL⟩ : ∃ L, P.length = L := ⟨_, rfl⟩
        have hOwnP := hOwn.out
        rw [hP] at hOwnP hlen
        rw [hL] at hOwnP hlen
        obtain ⟨L0, L1⟩ := hlen
        obtain ⟨g, cp, hv, hg1, hg2, hcp, hcm⟩ := owns_form hOwnP L0
        rw [hv] at hOwnP ⊢
        have hfz := owns_froz hOwnP (L - 1)
        have hcl := owns_cell hOwnP (L - 1) (.int .u8 (P.getD (L - 1) 0)) (by simp [List.getElem?_map, List.getD_eq_getElem?_getD, List.getElem?_eq_getElem (show L - 1 < P.length by omega)])
        have HO := Hi hOwnP
        have HP := Hi hP
        have HL := Hi hL
        have HCP := Hi hcp
        clear hOwnP hP hL hOwn hv hcp hcm
        obtain ⟨y, hy⟩ : ∃ y, P.getD (L - 1) 0 = y := ⟨_, rfl⟩
        rw [hy] at hcl
        have HY := Hi hy
        clear hy
        have HAT := Hi hat
        have i1 : (0 : Int) ≤ (L : Int) - 1 := by omega
        have i2 : (L : Int) - 1 < L := by omega
        have i3 : ((L : Int) - 1).toNat = L - 1 := by omega
        rcases (show k * 4 % 8 = 4 by omega) with ha
        · have HA := Hi ha
          have ht : (k : Int) * 4 % 8 = 4 := by omega
          clear ha hat
          go_wp2
          go_region
          go_wp2
          go_roundw
          case rel =>
            refine ⟨k + 1, by omega, by go_num, ?_, good_next HZ.out HX.out hgd.out, (hb'.out.setCell (show w.heap.size ≤ g from hg1) _).drew⟩
            have em : x * 2 ^ (8 - 4 - 4) % 256 = x := by
              rw [show (2 : Int) ^ (8 - 4 - 4) = 1 by decide]; omega
            rw [packF_old l 4 k (by decide) HAT.out, HX.out, HP.out, HA.out, em]
            unfold orLast
            rw [HL.out, HY.out]
            exact owns_eq (owns_set HO.out (L - 1) (by omega) _) (by simp [HL.out]) (by simp)
          case measure => simp [intOf]; omega
    · have hge : l.length ≤ k := by omega
      have PG := Hi (packI_good l 4 (fun j hj => HZ.out j (by omega)))
      obtain ⟨P, hP⟩ : ∃ P, packF l 4 l.length = P := ⟨_, rfl⟩
      have hOwnP := Hi (show wr.ownsRow w.heap.size 5 1 u6 P.length (P.map (.int .u8)) by rw [← hP, ← show k = l.length by omega]; exact hOwn.out)
      have hPl : P.length ≤ 4000 := by rw [← hP, packF_len l 4 _ (by simp)]; omega
      have HP := Hi hP
      clear hP hOwn hsz
      go_wp2
      obtain ⟨wo, rfl⟩ : ∃ wo : World, wo = wr := ⟨_, rfl⟩
      go_loopw [6] (fun v wr => ∃ j : Nat, j ≤ (4 - P.length % 4) % 4 ∧ wr.ownsRow w.heap.size 5 1 v (P ++ List.replicate j 0).length ((P ++ List.replicate j 0).map (.int .u8)) ∧ Below w.heap.size w wr) (fun v _ => P.length + 4 - slLen v)
      case atStart => exact ⟨0, by omega, by simpa using hOwnP.out, hb'.out⟩
      case round =>
        obtain ⟨j, hj, hown, hb⟩ := hrel
        have hOwn2 := Hi hown
        have hb2 := Hi hb
        have hsz2 := hb.size
        obtain ⟨a, cp, hv⟩ := owns_shape hown
        have hcv := owns_string (P := Tryz.prog) hown 61 9 5 Tryz.underlying61 Tryz.underlying5 Tryz.underlying9
        obtain ⟨L, hL⟩ : ∃ L, (P ++ List.replicate j 0).length = L := ⟨_, rfl⟩
        have hLj : L = P.length + j := by rw [← hL]; simp
        have LJ := Hi hLj
        have hL2 : L ≤ 4004 := by omega
        rw [hL] at hv hOwn2
        rw [hv] at hcv hOwn2
        rw [hv]
        clear hown hb hL
        by_cases hm : L % 4 = 0
        · have ht : ((L : Int) % 4 != 0) = false := by rw [bne_eq_false_iff_eq]; omega
          have PD := Hi (pad_done P j hj (by omega))
          clear hm hLj
          go_wp2
          go_ret2
          exact ⟨by rw [PG.out, PD.out, HP.out]; rfl, hb2.out⟩
        · have ht : ((L : Int) % 4 != 0) = true := by rw [bne_iff_ne]; omega
          clear hcv hLj
          go_wp2_with (at_builtin; refine app1 rfl (.tmp 84) (.tmp 85) 61 rfl w.heap.size 5 (.int .u8 0) 1 Tryz.underlying61 (by kernel_rfl) rfl _ _ _ rfl hOwn2.out _ rfl _ rfl (by omega) (by unfold maxLen; omega) hsz2 ?_; intro v' w1 hown1 hB1 hz1; have O1 := Hi hown1; have B1 := Hi hB1; clear hown1 hB1)
          go_roundw
          case rel => exact ⟨j + 1, by have := LJ.out; omega, owns_eq O1.out (by have := LJ.out; simp; omega) (by rw [List.replicate_succ']; simp), B1.out w hb2.out⟩
          case measure =>
            have h1 := owns_shape O1.out
            obtain ⟨a', cp', hv'⟩ := h1
            have := LJ.out
            rw [hv']; simp only [slLen]; omega
set_option maxHeartbeats 2000000 in
theorem dpack_1 (l : List Int) (B : Nat) (o : Nat) (cap : Nat) (w : World) (hB : B < w.heap.size) (hn : l.length ≤ 1000) (hc : ∀ i, i < l.length → w.cell? ⟨B, o + i, none⟩ = some (.int .i64 (l.getD i 0))) :
    Calls Tryz.prog 98 #[.slice (some ⟨B, o, none⟩) l.length cap, .int .i64 1] w (Packs w (packI l 1)) := by
  have HC := Hi hc
  clear hc
  go_enter Tryz.func98, Tryz.ntmps98
  go_wp2
  go_loopw [6, 21] (fun v i wr => ∃ k : Nat, k ≤ l.length ∧ i = .int .i64 k ∧ wr.ownsRow w.heap.size 5 1 v (packF l 1 k).length ((packF l 1 k).map (.int .u8)) ∧ (∀ j, j < k → 0 ≤ l.getD j 0 ∧ l.getD j 0 < 2 ^ 1) ∧ Below w.heap.size w wr) (fun _ i _ => l.length - (intOf i).toNat)
  case atStart => exact ⟨0, by omega, rfl, World.ownsRow_nil _ _ _ _, fun j hj => by omega, Below.refl _ _⟩
  case round =>
    obtain ⟨k, hk, rfl, hown, hz, hb⟩ := hrel
    have hOwn := Hi hown
    have HZ := Hi hz
    have hb' := Hi hb
    have hsz := hb.size
    clear hown hb hz
    by_cases hlt : k < l.length
    · have hck := ((bcell hb'.out).1 B (o + k) hB).trans (HC.out k hlt)
      by_cases hgd : 0 ≤ l.getD k 0 ∧ l.getD k 0 < 2 ^ 1
      rotate_left
      · have PB := Hi (packI_bad l 1 k hlt hgd)
        have hx : l.getD k 0 < 0 ∨ 2 ≤ l.getD k 0 := by omega
        obtain ⟨x, hx'⟩ : ∃ x, l.getD k 0 = x := ⟨_, rfl⟩
        rw [hx'] at hck hx
        clear hgd hx'
        rcases hx with hx | hx
        all_goals
          go_wp2
          go_ret2
          exact ⟨by rw [PB.out]; rfl, hb'.out⟩
      have hgd := Hi hgd
      obtain ⟨g0, g1⟩ := hgd.out
      obtain ⟨x, hx⟩ : ∃ x, l.getD k 0 = x := ⟨_, rfl⟩
      rw [hx] at hck g0 g1 hgd
      have HX := Hi hx
      clear hx
      have g2 : x < 2 := by omega
      clear g1
      skip
      by_cases hat : k * 1 % 8 = 0
      · have ht : (k : Int) % 8 = 0 := by omega
        have HAT := Hi hat
        have hlen : (packF l 1 k).length ≤ 5000 := by rw [packF_len l 1 k (by simp)]; omega
        clear hat
        go_wp2_with (at_builtin; refine app1 rfl (.tmp 56) (.tmp 62) 61 rfl w.heap.size 5 (.int .u8 0) 1 Tryz.underlying61 (by kernel_rfl) rfl _ _ _ rfl hOwn.out _ rfl _ rfl (by omega) (by unfold maxLen; omega) hsz ?_; intro v' w1 hown1 hB1 hz1; have O1 := Hi hown1; have B1 := Hi hB1; clear hown1 hB1)
        go_roundw
        case rel => exact ⟨k + 1, by omega, by go_num, owns_eq O1.out (by rw [packF_new l 1 k (by decide) HAT.out, HX.out]; simp) (by rw [packF_new l 1 k (by decide) HAT.out, HX.out]; simp <;> omega), good_next HZ.out HX.out hgd.out, B1.out w hb'.out⟩
        case measure => simp [intOf]; omega
      · have hlen : 0 < (packF l 1 k).length ∧ (packF l 1 k).length ≤ 5000 := by rw [packF_len l 1 k (by simp)]; omega
        obtain ⟨P, hP⟩ : ∃ P, packF l 1 k = P := ⟨_, rfl⟩
        obtain ⟨L, hL⟩ : ∃ L, P.length = L := ⟨_, rfl⟩
        have hOwnP := hOwn.out
        rw [hP] at hOwnP hlen
        rw [hL] at hOwnP hlen
        obtain ⟨L0, L1⟩ := hlen
        obtain ⟨g, cp, hv, hg1, hg2, hcp, hcm⟩ := owns_form hOwnP L0
        rw [hv] at hOwnP ⊢
        have hfz := owns_froz hOwnP (L - 1)
        have hcl := owns_cell hOwnP (L - 1) (.int .u8 (P.getD (L - 1) 0)) (by simp [List.getElem?_map, List.getD_eq_getElem?_getD, List.getElem?_eq_getElem (show L - 1 < P.length by omega)])
        have HO := Hi hOwnP
        have HP := Hi hP
        have HL := Hi hL
        have HCP := Hi hcp
        clear hOwnP hP hL hOwn hv hcp hcm
        obtain ⟨y, hy⟩ : ∃ y, P.getD (L - 1) 0 = y := ⟨_, rfl⟩
        rw [hy] at hcl
        have HY := Hi hy
        clear hy
        have HAT := Hi hat
        have i1 : (0 : Int) ≤ (L : Int) - 1 := by omega
        have i2 : (L : Int) - 1 < L := by omega
        have i3 : ((L : Int) - 1).toNat = L - 1 := by omega
        rcases (show k * 1 % 8 = 1 ∨ k * 1 % 8 = 2 ∨ k * 1 % 8 = 3 ∨ k * 1 % 8 = 4 ∨ k * 1 % 8 = 5 ∨ k * 1 % 8 = 6 ∨ k * 1 % 8 = 7 by omega) with ha | ha | ha | ha | ha | ha | ha
        · have HA := Hi ha
          have ht : (k : Int) % 8 = 1 := by omega
          clear ha hat
          go_wp2
          go_region
          go_wp2
          go_roundw
          case rel =>
            refine ⟨k + 1, by omega, by go_num, ?_, good_next HZ.out HX.out hgd.out, (hb'.out.setCell (show w.heap.size ≤ g from hg1) _).drew⟩
            have em : x * 2 ^ (8 - 1 - 1) % 256 = x * 64 := by
              rw [show (2 : Int) ^ (8 - 1 - 1) = 64 by decide]; omega
            rw [packF_old l 1 k (by decide) HAT.out, HX.out, HP.out, HA.out, em]
            unfold orLast
            rw [HL.out, HY.out]
            exact owns_eq (owns_set HO.out (L - 1) (by omega) _) (by simp [HL.out]) (by simp)
          case measure => simp [intOf]; omega
        · have HA := Hi ha
          have ht : (k : Int) % 8 = 2 := by omega
          clear ha hat
          go_wp2
          go_region
          go_wp2
          go_roundw
          case rel =>
            refine ⟨k + 1, by omega, by go_num, ?_, good_next HZ.out HX.out hgd.out, (hb'.out.setCell (show w.heap.size ≤ g from hg1) _).drew⟩
            have em : x * 2 ^ (8 - 1 - 2) % 256 = x * 32 := by
              rw [show (2 : Int) ^ (8 - 1 - 2) = 32 by decide]; omega
            rw [packF_old l 1 k (by decide) HAT.out, HX.out, HP.out, HA.out, em]
            unfold orLast
            rw [HL.out, HY.out]
            exact owns_eq (owns_set HO.out (L - 1) (by omega) _) (by simp [HL.out]) (by simp)
          case measure => simp [intOf]; omega
        · have HA := Hi ha
          have ht : (k : Int) % 8 = 3 := by omega
          clear ha hat
          go_wp2
          go_region
          go_wp2
          go_roundw
          case rel =>
            refine ⟨k + 1, by omega, by go_num, ?_, good_next HZ.out HX.out hgd.out, (hb'.out.setCell (show w.heap.size ≤ g from hg1) _).drew⟩
            have em : x * 2 ^ (8 - 1 - 3) % 256 = x * 16 := by
              rw [show (2 : Int) ^ (8 - 1 - 3) = 16 by decide]; omega
            rw [packF_old l 1 k (by decide) HAT.out, HX.out, HP.out, HA.out, em]
            unfold orLast
            rw [HL.out, HY.out]
            exact owns_eq (owns_set HO.out (L - 1) (by omega) _) (by simp [HL.out]) (by simp)
          case measure => simp [intOf]; omega
        · have HA := Hi ha
          have ht : (k : Int) % 8 = 4 := by omega
          clear ha hat
          go_wp2
          go_region
          go_wp2
          go_roundw
          case rel =>
            refine ⟨k + 1, by omega, by go_num, ?_, good_next HZ.out HX.out hgd.out, (hb'.out.setCell (show w.heap.size ≤ g from hg1) _).drew⟩
            have em : x * 2 ^ (8 - 1 - 4) % 256 = x * 8 := by
              rw [show (2 : Int) ^ (8 - 1 - 4) = 8 by decide]; omega
            rw [packF_old l 1 k (by decide) HAT.out, HX.out, HP.out, HA.out, em]
            unfold orLast
            rw [HL.out, HY.out]
            exact owns_eq (owns_set HO.out (L - 1) (by omega) _) (by simp [HL.out]) (by simp)
          case measure => simp [intOf]; omega
        · have HA := Hi ha
          have ht : (k : Int) % 8 = 5 := by omega
          clear ha hat
          go_wp2
          go_region
          go_wp2
          go_roundw
          case rel =>
            refine ⟨k + 1, by omega, by go_num, ?_, good_next HZ.out HX.out hgd.out, (hb'.out.setCell (show w.heap.size ≤ g from hg1) _).drew⟩
            have em : x * 2 ^ (8 - 1 - 5) % 256 = x * 4 := by
              rw [show (2 : Int) ^ (8 - 1 - 5) = 4 by decide]; omega
            rw [packF_old l 1 k (by decide) HAT.out, HX.out, HP.out, HA.out, em]
            unfold orLast
            rw [HL.out, HY.out]
            exact owns_eq (owns_set HO.out (L - 1) (by omega) _) (by simp [HL.out]) (by simp)
          case measure => simp [intOf]; omega
        · have HA := Hi ha
          have ht : (k : Int) % 8 = 6 := by omega
          clear ha hat
          go_wp2
          go_region
          go_wp2
          go_roundw
          case rel =>
            refine ⟨k + 1, by omega, by go_num, ?_, good_next HZ.out HX.out hgd.out, (hb'.out.setCell (show w.heap.size ≤ g from hg1) _).drew⟩
            have em : x * 2 ^ (8 - 1 - 6) % 256 = x * 2 := by
              rw [show (2 : Int) ^ (8 - 1 - 6) = 2 by decide]; omega
            rw [packF_old l 1 k (by decide) HAT.out, HX.out, HP.out, HA.out, em]
            unfold orLast
            rw [HL.out, HY.out]
            exact owns_eq (owns_set HO.out (L - 1) (by omega) _) (by simp [HL.out]) (by simp)
          case measure => simp [intOf]; omega
        · have HA := Hi ha
          have ht : (k : Int) % 8 = 7 := by omega
          clear ha hat
          go_wp2
          go_region
          go_wp2
          go_roundw
          case rel =>
            refine ⟨k + 1, by omega, by go_num, ?_, good_next HZ.out HX.out hgd.out, (hb'.out.setCell (show w.heap.size ≤ g from hg1) _).drew⟩
            have em : x * 2 ^ (8 - 1 - 7) % 256 = x := by
              rw [show (2 : Int) ^ (8 - 1 - 7) = 1 by decide]; omega
            rw [packF_old l 1 k (by decide) HAT.out, HX.out, HP.out, HA.out, em]
            unfold orLast
            rw [HL.out, HY.out]
            exact owns_eq (owns_set HO.out (L - 1) (by omega) _) (by simp [HL.out]) (by simp)
          case measure => simp [intOf]; omega
    · have hge : l.length ≤ k := by omega
      have PG := Hi (packI_good l 1 (fun j hj => HZ.out j (by omega)))
      obtain ⟨P, hP⟩ : ∃ P, packF l 1 l.length = P := ⟨_, rfl⟩
      have hOwnP := Hi (show wr.ownsRow w.heap.size 5 1 u6 P.length (P.map (.int .u8)) by rw [← hP, ← show k = l.length by omega]; exact hOwn.out)
      have hPl : P.length ≤ 4000 := by rw [← hP, packF_len l 1 _ (by simp)]; omega
      have HP := Hi hP
      clear hP hOwn hsz
      go_wp2
      obtain ⟨wo, rfl⟩ : ∃ wo : World, wo = wr := ⟨_, rfl⟩
      go_loopw [6] (fun v wr => ∃ j : Nat, j ≤ (4 - P.length % 4) % 4 ∧ wr.ownsRow w.heap.size 5 1 v (P ++ List.replicate j 0).length ((P ++ List.replicate j 0).map (.int .u8)) ∧ Below w.heap.size w wr) (fun v _ => P.length + 4 - slLen v)
      case atStart => exact ⟨0, by omega, by simpa using hOwnP.out, hb'.out⟩
      case round =>
        obtain ⟨j, hj, hown, hb⟩ := hrel
        have hOwn2 := Hi hown
        have hb2 := Hi hb
        have hsz2 := hb.size
        obtain ⟨a, cp, hv⟩ := owns_shape hown
        have hcv := owns_string (P := Tryz.prog) hown 61 9 5 Tryz.underlying61 Tryz.underlying5 Tryz.underlying9
        obtain ⟨L, hL⟩ : ∃ L, (P ++ List.replicate j 0).length = L := ⟨_, rfl⟩
        have hLj : L = P.length + j := by rw [← hL]; simp
        have LJ := Hi hLj
        have hL2 : L ≤ 4004 := by omega
        rw [hL] at hv hOwn2
        rw [hv] at hcv hOwn2
        rw [hv]
        clear hown hb hL
        by_cases hm : L % 4 = 0
        · have ht : ((L : Int) % 4 != 0) = false := by rw [bne_eq_false_iff_eq]; omega
          have PD := Hi (pad_done P j hj (by omega))
          clear hm hLj
          go_wp2
          go_ret2
          exact ⟨by rw [PG.out, PD.out, HP.out]; rfl, hb2.out⟩
        · have ht : ((L : Int) % 4 != 0) = true := by rw [bne_iff_ne]; omega
          clear hcv hLj
          go_wp2_with (at_builtin; refine app1 rfl (.tmp 84) (.tmp 85) 61 rfl w.heap.size 5 (.int .u8 0) 1 Tryz.underlying61 (by kernel_rfl) rfl _ _ _ rfl hOwn2.out _ rfl _ rfl (by omega) (by unfold maxLen; omega) hsz2 ?_; intro v' w1 hown1 hB1 hz1; have O1 := Hi hown1; have B1 := Hi hB1; clear hown1 hB1)
          go_roundw
          case rel => exact ⟨j + 1, by have := LJ.out; omega, owns_eq O1.out (by have := LJ.out; simp; omega) (by rw [List.replicate_succ']; simp), B1.out w hb2.out⟩
          case measure =>
            have h1 := owns_shape O1.out
            obtain ⟨a', cp', hv'⟩ := h1
            have := LJ.out
            rw [hv']; simp only [slLen]; omega
def depthOk (d : Int) : Prop := d = 1 ∨ d = 4 ∨ d = 8 ∨ d = 16 ∨ d = 24 ∨ d = 32
theorem packI_nil (d : Nat) : packI [] d = (ByteArray.empty, 0) := by
  rw [packI_good [] d (fun k hk => by simp at hk)]; simp [packF, padF, strOf]
set_option maxHeartbeats 1000000 in
theorem dpack_nil (a : Option Addr) (cap : Nat) (d : Int) (hd : depthOk d) (w : World) : Calls Tryz.prog 98 #[.slice a 0 cap, .int .i64 d] w (Packs w (ByteArray.empty, 0)) := by
  have hcv := fun W => run_convert_bytes_string (P := Tryz.prog) W 61 9 5 none 0 0 Tryz.underlying61 Tryz.underlying5 Tryz.underlying9
  have hcw : ∀ W, (convert 61 9 (.slice none 0 0)).run Tryz.prog W = .ok (.string ByteArray.empty) W := fun W => (hcv W).trans rfl
  clear hcv
  rcases hd with rfl | rfl | rfl | rfl | rfl | rfl
  all_goals
    go_enter Tryz.func98, Tryz.ntmps98
    go_wp2
    go_rounds 1
    go_rounds 1
    go_ret2
    exact ⟨rfl, Below.refl _ _⟩
def Ints (w : World) (s : Value) (l : List Int) : Prop := (∃ a cap, s = .slice a 0 cap ∧ l = []) ∨ ∃ B o cap, s = .slice (some ⟨B, o, none⟩) l.length cap ∧ B < w.heap.size ∧ ∀ i, i < l.length → w.cell? ⟨B, o + i, none⟩ = some (.int .i64 (l.getD i 0))
theorem dpack_any (l : List Int) (s : Value) (d : Nat) (w : World) (hs : Ints w s l) (hn : l.length ≤ 1000) (hd : depthOk d) : Calls Tryz.prog 98 #[s, .int .i64 d] w (Packs w (packI l d)) := by
  rcases hs with ⟨a, cap, rfl, rfl⟩ | ⟨B, o, cap, rfl, hB, hc⟩
  · rw [packI_nil]; exact dpack_nil a cap d hd w
  · rcases (show d = 1 ∨ d = 4 ∨ d = 8 ∨ d = 16 ∨ d = 24 ∨ d = 32 by unfold depthOk at hd; omega) with rfl | rfl | rfl | rfl | rfl | rfl
    · exact dpack_1 l B o cap w hB hn hc
    · exact dpack_4 l B o cap w hB hn hc
    · exact dpack_8 l B o cap w hB hn hc
    · exact dpack_16 l B o cap w hB hn hc
    · exact dpack_24 l B o cap w hB hn hc
    · exact dpack_32 l B o cap w hB hn hc
theorem highest_any (now left : Nat) (w : World) (h0 : now < 256) (h1 : 1 ≤ left) (h2 : left ≤ 8) : Calls Tryz.prog 165 #[.int .i64 now, .int .i64 left] w fun e w' => e = .returned (.int .i64 ((now : Int) / 2 ^ (left - 1) % 2)) ∧ w = w' := by
  go_enter Tryz.func165, Tryz.ntmps165
  go_wp2
  go_ret
  exact ⟨ret_int (i64_and_one _), rfl⟩
theorem joinhi_any (v b i : Int) (w : World) (h0 : 0 ≤ v) (h1 : v < 4294967296) (h2 : 0 ≤ b) (h3 : b ≤ 1) : Calls Tryz.prog 166 #[.int .i64 v, .int .i64 b, .int .i64 i] w fun e w' => e = .returned (.int .i64 (2 * v + b)) ∧ w = w' := by
  go_enter Tryz.func166, Tryz.ntmps166
  go_wp2
  go_ret
  have := or_high 1 b v h2 (by omega) h0 (by have h62 : (2 : Int) ^ 62 = 4611686018427387904 := (by decide); omega)
  exact ⟨ret_int (by rw [show v * 2 = v * 2 ^ 1 by omega, this]; omega), rfl⟩
/-! ### the bits of a text -/
def fBit (low : Bool) : Value := .func (.func (if low = true then 167 else 165)) #[] #[]
def fJoin (low : Bool) : Value := .func (.func (if low = true then 168 else 166)) #[] #[]
def btCells (X : Nat) (now : Int) (left : Nat) (low : Bool) : Array Value := #[.pointer (some ⟨X, 0, none⟩), .int .i64 now, .int .i64 left, fBit low, fJoin low]
structure BitsAt (w : World) (K X : Nat) (L : Nat) (s : ByteArray) (low : Bool) (t : Nat) (l : Led) : Prop where
  obj : ∃ now : Int, Obj1 w K (btCells X now ((8 - t % 8) % 8) low) 249 ∧ (t % 8 ≠ 0 → now = byN s (t / 8))
  pair : Pair w X ⟨L, s, 0, s.size, (t + 7) / 8⟩ l
  nx : K ≠ X
  nl : K ≠ L
  br : l.br = false
  enough : l.st + (s.size - (t + 7) / 8 : Nat) ≤ l.mx
def three (K X L : Nat) (k : Nat) : Prop := k = K ∨ k = X ∨ k = L
theorem BitsAt.more {w : World} {K X L : Nat} {s : ByteArray} {low : Bool} {t : Nat} {l l' : Led} {now : Int} {z : Nat} (ho : Obj1 w K (btCells X now z low) 249) (hz : z = (8 - t % 8) % 8) (hn : t % 8 ≠ 0 → now = byN s (t / 8)) {p : Nat} (hpr : Pair w X ⟨L, s, 0, s.size, p⟩ l) (hp : p = (t + 7) / 8) (h1 : K ≠ X) (h2 : K ≠ L) (h3 : l.br = false) (h4 : l.st + (s.size - p : Nat) ≤ l.mx) (hl : l = l') : BitsAt w K X L s low t l' := by
  subst hz hp hl; exact ⟨⟨now, ho, hn⟩, hpr, h1, h2, h3, h4⟩
theorem Pair.put {w : World} {X K i : Nat} {x : Sr} {l : Led} (h : Pair w X x l) (v : Value) (h1 : K ≠ X) (h2 : K ≠ x.L) : Pair (w.setCell ⟨K, i, none⟩ v) X x l := ⟨⟨h.src.obj.set_other _ _ (fun e => h1 e.symm), h.src.ok, h.src.ne⟩, h.led.put _ (fun e => h2 e.symm)⟩
theorem Pair.drewN {w : World} {X : Nat} {x : Sr} {l : Led} (h : Pair w X x l) (n : Nat) : Pair (w.drewN n) X x l := ⟨h.src.drewN n, h.led.drewN n⟩
theorem BitsAt.led {w w' : World} {K X L : Nat} {s : ByteArray} {low : Bool} {t : Nat} {l l' : Led} {S : Nat → Prop} (h : BitsAt w K X L s low t l) (hc : Chg S w w') (hl : LedAt w' L l') (hb : l'.br = false) (he : l'.st + (s.size - (t + 7) / 8 : Nat) ≤ l'.mx) (h1 : ¬ S K) (h2 : ¬ S X) : BitsAt w' K X L s low t l' := by
  obtain ⟨now, ho, hn⟩ := h.obj
  exact ⟨⟨now, hc.obj ho h1, hn⟩, ⟨h.pair.src.chg hc h2, hl⟩, h.nx, h.nl, hb, he⟩
end Go.Proofs.YtlfbaggcfaenlaaGreat
namespace Go.Proofs.YtlfbaggcfaenlaaGreat
open Go.RowKit
set_option linter.unusedVariables false
set_option linter.unusedSimpArgs false
abbrev BtAt (w : World) (K X : Nat) (now left : Nat) : Prop := Obj1 w K (btCells X now left false) 249
theorem bnewb_any (X : Nat) (w : World) : Calls Tryz.prog 99 #[.pointer (some ⟨X, 0, none⟩), .bool false] w fun e w' =>
      ∃ K, e = .returned (.tuple #[.pointer (some ⟨K, 0, none⟩), .int .i64 0]) ∧ BtAt w' K X 0 0 ∧ w.heap.size ≤ K ∧ Chg (fun _ => False) w w' := by
  go_enter Tryz.func99, Tryz.ntmps99
  go_wp2
  go_ret2
  exact ⟨w.heap.size, rfl, obj1_new _ _ _, Nat.le_refl _, (Chg.refl _ _).alloc _⟩
def valB (B z i : Nat) : Nat := B / 2 ^ (z - i) % 2 ^ i
theorem valB_zero (B z : Nat) : valB B z 0 = 0 := by unfold valB; omega
theorem valB_bd (B z i : Nat) : valB B z i < 2 ^ i := Nat.mod_lt _ (Nat.two_pow_pos i)
theorem valB_succ (B z i : Nat) (h : i < z) : valB B z (i + 1) = 2 * valB B z i + B / 2 ^ (z - i - 1) % 2 := by
  unfold valB
  have e1 : z - i = (z - (i + 1)) + 1 := by omega
  have e2 : z - i - 1 = z - (i + 1) := by omega
  rw [e2, e1]
  obtain ⟨k, hk⟩ : ∃ k, z - (i + 1) = k := ⟨_, rfl⟩
  rw [hk, show B / 2 ^ (k + 1) = B / 2 ^ k / 2 by rw [Nat.pow_succ, Nat.div_div_eq_div_mul], Nat.pow_succ, Nat.mul_comm (2 ^ i) 2, Nat.mod_mul]
  omega
def BtStage (wr : World) (K X : Nat) (x y : Sr) (l m : Led) (now left B z i : Nat) : Prop :=
  (i = 0 ∧ left = 0 ∧ BtAt wr K X now 0 ∧ Pair wr X x l) ∨ ((i = 0 → left ≠ 0) ∧ BtAt wr K X B (z - i) ∧ Pair wr X y m)
def btS (K X : Nat) (x : Sr) (k : Nat) : Prop := k = K ∨ two X x k
set_option maxRecDepth 100000 in
set_option maxHeartbeats 4000000 in
theorem bread_yes (K X : Nat) (x y : Sr) (l m : Led) (now left B z n : Nat) (w : World) (ho : BtAt w K X now left) (hp : Pair w X x l) (hKX : K ≠ X) (hKL : K ≠ x.L) (hyL : y.L = x.L) (hB : B < 256) (hz : z ≤ 8) (hn : n ≤ z)
    (hc : (left = 0 ∧ z = 8 ∧ ∀ w0, Pair w0 X x l → Calls Tryz.prog 157 #[.pointer (some ⟨X, 0, none⟩)] w0 fun e w' => e = .returned (.tuple #[.int .i64 B, .bool true]) ∧ Pair w' X y m ∧ Chg (two X x) w0 w') ∨ (0 < left ∧ z = left ∧ B = now ∧ y = x ∧ m = l)) (h1 : 1 ≤ n) :
    Calls Tryz.prog 226 #[.pointer (some ⟨K, 0, none⟩), .int .i64 n] w fun e w' => e = .returned (.tuple #[.int .i64 (valB B z n : Nat), .bool true]) ∧ BtAt w' K X B (z - n) ∧ Pair w' X y m ∧ Chg (btS K X x) w w' := by
  have G1 : decide ((n : Int) < 0) = false := by rw [decide_eq_false_iff_not]; omega
  have G2 : decide ((n : Int) > 32) = false := by rw [decide_eq_false_iff_not]; omega
  have H0 := Hi (show BtStage w K X x y l m now left B z 0 by
    rcases hc with ⟨h, -, -⟩ | ⟨h, e1, e2, e3, e4⟩
    · subst h; exact Or.inl ⟨rfl, rfl, ho, hp⟩
    · subst e1 e2 e3 e4; exact Or.inr ⟨fun _ => by omega, ho, hp⟩)
  have HCC := Hi hc
  have HYL := Hi hyL
  clear ho hp hc hyL
  go_enter Tryz.func226, Tryz.ntmps226
  go_wp2
  go_loopw [6, 7, 8, 9, 17] (fun v q8 q9 q10 c wr => ∃ i : Nat, i ≤ n ∧ c = .int .i64 i ∧ v = .int .i64 (valB B z i : Nat) ∧ BtStage wr K X x y l m now left B z i ∧ Chg (btS K X x) w wr) (fun _ _ _ _ c _ => n - (intOf c).toNat)
  case atStart => exact ⟨0, by omega, rfl, by rw [valB_zero]; rfl, H0.out, Chg.refl _ _⟩
  case round =>
    obtain ⟨i, hi, rfl, rfl, hst, hC⟩ := hrel
    have HC := Hi hC
    clear hC
    by_cases hlt : i < n
    rotate_left
    · have E := Hi (show i = n by omega)
      have hst := Hi hst
      go_wp2
      go_ret2
      have e := E.out
      subst e
      rcases hst.out with ⟨h, -⟩ | ⟨-, h2, h3⟩
      · omega
      · exact ⟨rfl, h2, h3, HC.out⟩
    obtain ⟨b, hb⟩ : ∃ b : Nat, B / 2 ^ (z - i - 1) % 2 = b := ⟨_, rfl⟩
    obtain ⟨v, hv⟩ : ∃ v : Nat, valB B z i = v := ⟨_, rfl⟩
    have hb1 : b ≤ 1 := by rw [← hb]; omega
    have hv1 : v < 256 := by
      have := valB_bd B z i
      rw [hv] at this
      have h2 : 2 ^ i ≤ 2 ^ 8 := Nat.pow_le_pow_right (by decide) (by omega)
      omega
    have JV := Hi (show (valB B z (i + 1) : Int) = 2 * (v : Int) + (b : Int) by rw [valB_succ B z i (by omega), hb, hv]; omega)
    have HH := Hi (fun w0 => (highest_any B (z - i) w0 hB (by omega) (by omega)).mono (R' := fun e w' => e = .returned (.int .i64 b) ∧ w' = w0) fun e w' hh => ⟨by rw [hh.1, ← hb]; simp, hh.2.symm⟩)
    have HJ := Hi (fun w0 => (joinhi_any v b i w0 (by omega) (by omega) (by omega) (by omega)).mono (R' := fun e w' => e = .returned (.int .i64 (2 * (v : Int) + (b : Int))) ∧ w' = w0) fun e w' hh => ⟨hh.1, hh.2.symm⟩)
    rw [hv]
    clear hb hv
    have HST := Hi hst
    obtain ⟨q, hq⟩ : ∃ q, z - i = q := ⟨_, rfl⟩
    have hq1 : 1 ≤ q := by omega
    have hq2 : q ≤ 8 := by omega
    rw [hq] at HH
    have FIN := Hi (show ∀ w2 k, Obj1 w2 K (btCells X B q false) 249 → Pair w2 X y m → BtStage ((w2.drewN k).setCell ⟨K, 2, none⟩ (.int .i64 ((q : Int) - 1))) K X x y l m now left B z (i + 1) from fun w2 k h1 h2 => Or.inr ⟨fun h => by omega, by
      rw [show ((q : Int) - 1) = ((z - (i + 1) : Nat) : Int) by omega]
      exact (h1.drewN k).set 2 _, (h2.drewN k).put _ hKX (by rw [HYL.out]; exact hKL)⟩)
    rcases hst with ⟨i0, l0, hO, hP⟩ | ⟨h0, hO, hP⟩
    · subst i0
      have c0 : wr.cell? ⟨K, 0, none⟩ = some (.pointer (some ⟨X, 0, none⟩)) := (hO.cell 0).trans rfl
      have c2 : wr.cell? ⟨K, 2, none⟩ = some (.int .i64 0) := (hO.cell 2).trans rfl
      have hu : z = 8 ∧ ∀ w0, Pair w0 X x l → Calls Tryz.prog 157 #[.pointer (some ⟨X, 0, none⟩)] w0 fun e w' => e = .returned (.tuple #[.int .i64 B, .bool true]) ∧ Pair w' X y m ∧ Chg (two X x) w0 w' := by
        rcases HCC.out with ⟨-, h1, h2⟩ | ⟨h1, -⟩
        · exact ⟨h1, h2⟩
        · omega
      have HU := Hi (hu.2 wr hP)
      have HO := Hi hO
      obtain rfl : q = 8 := by omega
      clear hu hO hP hq hq1 hq2 l0
      go_wp2_with ((go_at_call 157; (with_reducible refine (HU.out).mono ?_); rintro e w1 ⟨rfl, hP1, hC1⟩); have ho1 := Hi (hC1.obj HO.out (show ¬ (K = X ∨ K = x.L) by omega)); have k1 := (ho1.out.cell 1).trans rfl; have k2 := (ho1.out.cell 2).trans rfl; have f1 := ho1.out.frozen 1; have f2 := ho1.out.frozen 2)
      have ho2 := (ho1.out.set 1 (.int .i64 B)).set 2 (.int .i64 8)
      have hp2 := (hP1.put (K := K) (i := 1) (.int .i64 B) hKX (by rw [HYL.out]; exact hKL)).put (K := K) (i := 2) (.int .i64 8) hKX (by rw [HYL.out]; exact hKL)
      have hc2 := ((HC.out.trans (hC1.mono fun k _ h => Or.inr h)).set ⟨K, 1, none⟩ (.int .i64 B) (Or.inl (Or.inl rfl))).set ⟨K, 2, none⟩ (.int .i64 8) (Or.inl (Or.inl rfl))
      obtain ⟨w2, hw2⟩ : ∃ w2, (w1.setCell ⟨K, 1, none⟩ (.int .i64 B)).setCell ⟨K, 2, none⟩ (.int .i64 8) = w2 := ⟨_, rfl⟩
      rw [hw2] at ho2 hp2 hc2 ⊢
      have HO2 : Hid (Obj1 w2 K (btCells X B (8 : Nat) false) 249) := ho2
      have HC2 := Hi hc2
      have HP2 := Hi hp2
      have m1 : w2.cell? ⟨K, 1, none⟩ = some (.int .i64 B) := (HO2.out.cell 1).trans rfl
      have m2 : w2.cell? ⟨K, 2, none⟩ = some (.int .i64 8) := (HO2.out.cell 2).trans rfl
      have m3 : w2.cell? ⟨K, 3, none⟩ = some (.func (.func 165) #[] #[]) := (HO2.out.cell 3).trans rfl
      have m4 : w2.cell? ⟨K, 4, none⟩ = some (.func (.func 166) #[] #[]) := (HO2.out.cell 4).trans rfl
      have g2 := HO2.out.frozen 2
      clear hw2 ho2 hp2 hc2 hP1 hC1 k1 k2 f1 f2
      go_quiet ((first | (go_at_call 165; exact Calls.quiet_of_same (HH.out _)) | (go_at_call 166; exact Calls.quiet_of_same (HJ.out _))))
      go_wp2
      go_roundw
      case rel => exact ⟨1, by omega, by go_num, by rw [JV.out], FIN.out w2 _ HO2.out HP2.out, (HC2.out.drewN _).set _ _ (Or.inl (Or.inl rfl))⟩
      case measure => simp [intOf]; omega
    · rw [hq] at hO
      have m0 : ((q : Int) == 0) = false := by rw [beq_eq_false_iff_ne]; omega
      have m1 : wr.cell? ⟨K, 1, none⟩ = some (.int .i64 B) := (hO.cell 1).trans rfl
      have m2 : wr.cell? ⟨K, 2, none⟩ = some (.int .i64 q) := (hO.cell 2).trans rfl
      have m3 : wr.cell? ⟨K, 3, none⟩ = some (.func (.func 165) #[] #[]) := (hO.cell 3).trans rfl
      have m4 : wr.cell? ⟨K, 4, none⟩ = some (.func (.func 166) #[] #[]) := (hO.cell 4).trans rfl
      have g2 := hO.frozen 2
      have HO := Hi hO
      have HP := Hi hP
      clear hO hP hq h0
      go_wp2
      go_quiet ((first | (go_at_call 165; exact Calls.quiet_of_same (HH.out _)) | (go_at_call 166; exact Calls.quiet_of_same (HJ.out _))))
      go_wp2
      go_roundw
      case rel => exact ⟨i + 1, by omega, by go_num, by rw [JV.out], FIN.out wr _ HO.out HP.out, (HC.out.drewN _).set _ _ (Or.inl (Or.inl rfl))⟩
      case measure => simp [intOf]; omega
set_option maxRecDepth 100000 in
set_option maxHeartbeats 4000000 in
theorem bread_no (K X : Nat) (x : Sr) (l : Led) (now n : Nat) (w : World) (ho : BtAt w K X now 0) (hp : Pair w X x l) (hKX : K ≠ X) (hKL : K ≠ x.L) (h1 : 1 ≤ n) (hn : n ≤ 8) (hno : (x.next l 1).2.2 = false) :
    Calls Tryz.prog 226 #[.pointer (some ⟨K, 0, none⟩), .int .i64 n] w fun e w' => e = .returned (.tuple #[.int .i64 0, .bool false]) ∧ BtAt w' K X now 0 ∧ Pair w' X (x.next l 1).1.1 (x.next l 1).1.2 ∧ Chg (btS K X x) w w' := by
  have G1 : decide ((n : Int) < 0) = false := by rw [decide_eq_false_iff_not]; omega
  have G2 : decide ((n : Int) > 32) = false := by rw [decide_eq_false_iff_not]; omega
  have c0 : w.cell? ⟨K, 0, none⟩ = some (.pointer (some ⟨X, 0, none⟩)) := (ho.cell 0).trans rfl
  have c2 : w.cell? ⟨K, 2, none⟩ = some (.int .i64 0) := (ho.cell 2).trans rfl
  have HU := Hi ((u8_any X x l w hp).mono (R' := fun e w' => e = .returned (.tuple #[.int .i64 (numB (x.next l 1).2.1 true), .bool false]) ∧ Pair w' X (x.next l 1).1.1 (x.next l 1).1.2 ∧ Chg (two X x) w w') fun e w' hh => by unfold NumOf at hh; rw [hno] at hh; exact hh)
  obtain ⟨v, hv⟩ : ∃ v, numB (x.next l 1).2.1 true = v := ⟨_, rfl⟩
  obtain ⟨y, hy⟩ : ∃ v, (x.next l 1).1.1 = v := ⟨_, rfl⟩
  obtain ⟨m, hm⟩ : ∃ v, (x.next l 1).1.2 = v := ⟨_, rfl⟩
  rw [hv, hy, hm] at HU
  rw [hy, hm]
  have HO := Hi ho
  clear ho hp hno hv hy hm
  go_enter Tryz.func226, Tryz.ntmps226
  go_wp2
  refine wp_loop_rounds 1 ?_
  rw [rounds_succ]
  go_wp2_with (go_at_call 157; (with_reducible refine (HU.out).mono ?_); rintro e w1 ⟨rfl, hP1, hC1⟩)
  go_ret2
  exact ⟨rfl, hC1.obj HO.out (show ¬ (K = X ∨ K = x.L) by omega), hP1, hC1.mono fun k _ h => Or.inr h⟩
end Go.Proofs.YtlfbaggcfaenlaaGreat
namespace Go.Proofs.YtlfbaggcfaenlaaGreat
open Go.RowKit
set_option linter.unusedVariables false
theorem Obj1.there {w : World} {b : Nat} {cs : Array Value} {T : TypeId} (h : Obj1 w b cs T) (o n : Nat) (hn : o + n ≤ cs.size) : w.there b o n := fun j hj => by
  refine ⟨?_, h.frozen _⟩
  rw [h.cell, Array.getElem?_eq_getElem (by omega)]; rfl
theorem Obj1.range0 {w : World} {b : Nat} {cs : List Value} {T : TypeId} (h : Obj1 w b cs.toArray T) : w.rangeAt b 0 cs := fun j v hv => by
  rw [h.cell, Nat.zero_add]; simpa using hv
def setL : Array Value → Nat → List Value → Array Value
  | cs, _, [] => cs
  | cs, o, v :: r => setL (cs.setIfInBounds o v) (o + 1) r
theorem Stored.obj {w w2 : World} {b o : Nat} {vs : List Value} {cs : Array Value} {T : TypeId} (hst : Stored w b o vs w2) (h : Obj1 w b cs T) : Obj1 w2 b (setL cs o vs) T := by
  rw [show w2 = _ from hst]; clear hst
  induction vs generalizing w o cs with
  | nil => exact h
  | cons v r ih => rw [World.setCells, setL]; exact ih (h.set o v)
theorem Stored.oth {w w2 : World} {b o b' : Nat} {vs : List Value} {cs : Array Value} {T : TypeId} (hst : Stored w b o vs w2) (h : Obj1 w b' cs T) (hn : b' ≠ b) : Obj1 w2 b' cs T := by
  rw [show w2 = _ from hst]; clear hst
  induction vs generalizing w o with
  | nil => exact h
  | cons v r ih => rw [World.setCells]; exact ih (h.set_other _ _ hn)
theorem setL_get' (vs : List Value) : ∀ (cs : Array Value) (o i : Nat), o + vs.length ≤ cs.size → (setL cs o vs)[i]? = if o ≤ i ∧ i < o + vs.length then vs[i - o]? else cs[i]? := by
  induction vs with
  | nil => intro cs o i h; rw [setL, if_neg (by simp)]
  | cons v r ih =>
    intro cs o i h
    rw [setL, ih _ _ _ (by simp at h ⊢; omega)]
    simp only [List.length_cons] at h ⊢
    by_cases h1 : o + 1 ≤ i ∧ i < o + 1 + r.length
    · rw [if_pos h1, if_pos (by omega), show i - o = (i - (o + 1)) + 1 by omega, List.getElem?_cons_succ]
    · rw [if_neg h1]
      by_cases h2 : i = o
      · subst h2; rw [if_pos (by omega), Nat.sub_self]; simp [Array.getElem?_setIfInBounds]; omega
      · rw [if_neg (by omega), Array.getElem?_setIfInBounds, if_neg (by omega)]
theorem setL_full' (cs : Array Value) (vs : List Value) (h : vs.length = cs.size) : setL cs 0 vs = vs.toArray := by
  apply Array.ext_getElem?
  intro i
  rw [setL_get' vs cs 0 i (by omega)]
  by_cases hi : i < vs.length
  · rw [if_pos (by omega)]; simp
  · rw [if_neg (by omega), Array.getElem?_eq_none (by omega)]; simp; omega
theorem Stored.whole {w w2 : World} {b : Nat} {vs : List Value} {cs : Array Value} {T : TypeId} (hst : Stored w b 0 vs w2) (h : Obj1 w b cs T) (hl : vs.length = cs.size) : Obj1 w2 b vs.toArray T := by
  have := hst.obj h; rwa [setL_full' _ _ hl] at this
theorem store_o {P : Program} {ops : Array Oper} {rest : List Oper} {op : Oper} {a : Act} {w : World} {Q : Exit → Act → World → Prop} (hgd : op.guard = none) (ty : TypeId) (n : Nat) (x y : Operand) (ho : op.op = .store ty x y)
    (b : Nat) (YS : List Value) (hl : YS.length = n) (h1 : YS.all (·.oneCell') = true) (hx : a.eval x = .pointer (some ⟨b, 0, none⟩)) (hy : a.eval y = .agg YS.toArray) (hi : (P.info? ty).map (·.size) = some n) {cs : Array Value} {T : TypeId} (hO : Obj1 w b cs T) (hs : cs.size = n)
    (h : ∀ w2, Stored w b 0 YS w2 → Obj1 w2 b YS.toArray T → wpList P ops Q rest (a.put op.dst undef) w2) : wpList P ops Q (op :: rest) a w :=
  store_gen hgd ty x y ho b 0 YS.toArray hx hy (by have := hO.there 0 n (by omega); simpa [hl] using this) (by rw [List.size_toArray, hl]; exact hi) (by simpa using h1)
    fun w2 hst => h w2 (by simpa using hst) ((show Stored w b 0 YS w2 by simpa using hst).whole hO (by omega))
end Go.Proofs.YtlfbaggcfaenlaaGreat
namespace Go.Proofs.YtlfbaggcfaenlaaGreat
open Go.RowKit
theorem results_cc {P : Program} {fn : Func} {p q : Tmp} {ty ty2 : TypeId} (h : fn.results = #[.cell p ty, .cell q ty2]) (tmps : Array Value) (w : World) (b b2 : Nat) (cs cs2 : List Value) (d d2 : TypeDesc)
    (hp : tmps.getD p undef = .pointer (some ⟨b, 0, none⟩)) (R : w.rangeAt b 0 cs) (hu : P.underlying ty = some d) (hd : d.isRow = true) (hi : (P.info? ty).map (·.size) = some cs.length)
    (hq : tmps.getD q undef = .pointer (some ⟨b2, 0, none⟩)) (R2 : w.rangeAt b2 0 cs2) (hu2 : P.underlying ty2 = some d2) (hd2 : d2.isRow = true) (hi2 : (P.info? ty2).map (·.size) = some cs2.length) :
    (results fn tmps).run P w = .ok (.tuple #[.agg cs.toArray, .agg cs2.toArray]) w := by
  have hp' : tmps[p]?.getD undef = .pointer (some ⟨b, 0, none⟩) := by simpa using hp
  have hq' : tmps[q]?.getD undef = .pointer (some ⟨b2, 0, none⟩) := by simpa using hq
  simp [results, h, hp', hq', asAddr, run_loadVar_mid w b 0 ty cs d R hu hd hi, run_loadVar_mid w b2 0 ty2 cs2 d2 R2 hu2 hd2 hi2]
end Go.Proofs.YtlfbaggcfaenlaaGreat
namespace Go.Proofs.YtlfbaggcfaenlaaGreat
open Go.RowKit
set_option linter.unusedVariables false
set_option linter.unusedSimpArgs false
theorem ret_b {a b : Bool} (h : a = b) : Ending.returned (.bool a) = Ending.returned (.bool b) := by rw [h]
theorem ret_i {a b : Int} (h : a = b) : Ending.returned (.int .i64 a) = Ending.returned (.int .i64 b) := by rw [h]
structure Chk where
  x1 : Int
  kn : Bool
  pb : Bool
  th : Bool
  c7 : Bool
  C : Int
  W : Int
  H : Int
  dp : Bool
  f : Int
  al : Bool
def Chk.row (c : Chk) : Nat → Bool × Int × Int × Bool
  | 0 => (decide (1 < c.x1), 2, 1, false)
  | 1 => (!c.kn, 3, 2, false)
  | 2 => (c.pb && !c.th, 2, 1, false)
  | 3 => (c.th && !c.c7, 3, 7, false)
  | 4 => (c.th && c.C == 0, 2, 5, true)
  | 5 => (c.W == 0, 2, 12, false)
  | 6 => (decide (16384 < c.W), 3, 12, true)
  | 7 => (c.H == 0, 2, 14, false)
  | 8 => (decide (16384 < c.H), 3, 14, true)
  | 9 => (!c.dp, 3, 16, false)
  | 10 => (c.f / 64 != 0, 3, 17, true)
  | 11 => (!c.al, 2, 17, true)
  | _ => (false, 0, 0, false)
def Chk.from (c : Chk) : Nat → Nat → Option (Int × Int)
  | 0, _ => none
  | n + 1, i => if (c.row i).1 = true then some ((c.row i).2.1, (c.row i).2.2.1) else c.from n (i + 1)
def Chk.first (c : Chk) : Option (Int × Int) := c.from 12 0
def Chk.isFrom (c : Chk) : Nat → Nat → Bool
  | 0, _ => true
  | n + 1, i => if ((c.row i).1 && !(c.row i).2.2.2) = true then false else c.isFrom n (i + 1)
def Chk.is (c : Chk) : Bool := c.isFrom 12 0
theorem byN_ext (s : ByteArray) (a b i : Nat) (h : a + i < b) (hb : b ≤ s.size) : byN (s.extract a b) i = byN s (a + i) := by
  have h1 : i < (s.extract a b).size := by rw [ByteArray.size_extract]; omega
  rw [← byN_get (s.extract a b) i h1, ← byN_get s (a + i) (by omega), ByteArray.getElem_extract]
end Go.Proofs.YtlfbaggcfaenlaaGreat
namespace Go
theorem gen_frame {P : Program} {ops : Array Oper} {Q : Exit → Act → World → Prop} {a : Act} {w : World} (p : Nat) (v : Value) (hv : a.tmps.getD p undef = v) (hd : a.defers = [])
    (h : ∀ A : Act, A.tmps.getD p undef = v → A.defers = [] → wpList P ops Q [] A w) : wpList P ops Q [] a w := h a hv hd
end Go
namespace Go.Proofs.YtlfbaggcfaenlaaGreat
open Go.RowKit
set_option linter.unusedVariables false
set_option linter.unusedSimpArgs false
def RA (w : World) (L : List Value) (e : Ending) (w' : World) : Prop := e = .returned (.agg L.toArray) ∧ Below w.heap.size w w'
theorem Stored.chg {S : Nat → Prop} {a w w2 : World} {b o : Nat} {vs : List Value} (hst : Stored w b o vs w2) (h : Chg S a w) (hb : a.heap.size ≤ b) : Chg S a w2 := by
  rw [show w2 = _ from hst]; clear hst
  induction vs generalizing w o with
  | nil => exact h
  | cons v r ih => rw [World.setCells]; exact ih (h.set _ _ (Or.inr hb))
theorem Pair.into {w w2 : World} {X b o : Nat} {vs : List Value} {x : Sr} {l : Led} (h : Pair w X x l) (hst : Stored w b o vs w2) (h1 : X ≠ b) (h2 : x.L ≠ b) : Pair w2 X x l :=
  ⟨⟨hst.oth h.src.obj h1, h.src.ok, h.src.ne⟩, ⟨hst.oth h.led.obj h2, h.led.ok⟩⟩
theorem Pair.upon {B : Nat} {w w' : World} {X : Nat} {x : Sr} {l : Led} (h : Pair w X x l) (hb : Below B w w') (h1 : X < B) (h2 : x.L < B) : Pair w' X x l := ⟨⟨h.src.obj.below hb h1, h.src.ok, h.src.ne⟩, ⟨h.led.obj.below hb h2, h.led.ok⟩⟩
def faultL (x : Sr) (l : Led) (f : Int) : List Value := if l.br = true then [.int .i64 4, .int .i64 f, .int .i64 x.p] else [.int .i64 1, .int .i64 f, .int .i64 x.e]
theorem faultL_eq (x : Sr) (l : Led) (f : Int) : x.fault l f = .agg (faultL x l f).toArray := by unfold Sr.fault faultL; split <;> rfl
theorem faultL_len (x : Sr) (l : Led) (f : Int) : (faultL x l f).length = 3 := by unfold faultL; split <;> rfl
theorem faultL_one (x : Sr) (l : Led) (f : Int) : (faultL x l f).all (·.oneCell') = true := by unfold faultL; split <;> rfl
theorem next_L (x : Sr) (l : Led) (n : Int) : (x.next l n).1.1.L = x.L := by unfold Sr.next; split <;> rfl
theorem fault_c (X : Nat) (x : Sr) (l : Led) (f : Int) (w : World) (F : List Value) (hF : faultL x l f = F) (h : Pair w X x l) : Calls Tryz.prog 67 #[.pointer (some ⟨X, 0, none⟩), .int .i64 f] w (RA w F) := by
  subst hF
  exact (fault_any X x l f w h).mono fun e w' hh => ⟨hh.1.trans (by rw [faultL_eq]), hh.2⟩
end Go.Proofs.YtlfbaggcfaenlaaGreat
namespace Go.Proofs.YtlfbaggcfaenlaaGreat
open Go.RowKit
set_option linter.unusedVariables false
theorem rsigned_any (s : ByteArray) (w : World) (hs : s.size ≤ 4) : Calls Tryz.prog 88 #[.string s] w fun e w' => e = .returned (.int .i64 (signed (loK s s.size))) ∧ w = w' := by
  have hb := loK_bd s s.size
  have hp := pow_le' (show 8 * s.size ≤ 32 by omega)
  have h32 : (2 : Int) ^ 32 = 4294967296 := by decide
  have HL := Hi (fun w0 => rle_any s w0 hs)
  unfold signed
  obtain ⟨v, hv⟩ : ∃ v, loK s s.size = v := ⟨_, rfl⟩
  rw [hv] at HL hb ⊢
  have v0 : 0 ≤ v := hb.1
  have v1 : v < 4294967296 := by omega
  clear hb hp h32 hv hs
  by_cases h : 2147483648 ≤ v
  · rw [if_pos h]
    go_enter Tryz.func88, Tryz.ntmps88
    go_wp2_with (go_at_call 86; (with_reducible refine (HL.out _).mono ?_); rintro e w1 ⟨rfl, rfl⟩)
    go_ret
    exact ⟨rfl, rfl⟩
  · rw [if_neg h]
    have h' : v < 2147483648 := by omega
    go_enter Tryz.func88, Tryz.ntmps88
    go_wp2_with (go_at_call 86; (with_reducible refine (HL.out _).mono ?_); rintro e w1 ⟨rfl, rfl⟩)
    go_ret
    exact ⟨rfl, rfl⟩
end Go.Proofs.YtlfbaggcfaenlaaGreat

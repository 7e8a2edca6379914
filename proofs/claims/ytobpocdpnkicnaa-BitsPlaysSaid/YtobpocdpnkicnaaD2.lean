/- dibrow.Pack, walked (printed by gen_dpack.py). -/
import Derived.Test.YtobpocdpnkicnaaD1
namespace Go.Proofs.Ytobpocdpnkicnaa
open Go.RowKit
set_option linter.unusedVariables false
set_option maxHeartbeats 2000000 in
theorem dpack_24 (l : List Int) (B : Nat) (o : Nat) (cap : Nat) (w : World) (hB : B < w.heap.size) (hn : l.length ≤ 1000) (hc : ∀ i, i < l.length → w.cell? ⟨B, o + i, none⟩ = some (.int .i64 (l.getD i 0))) :
    Calls Try.prog 24 #[.slice (some ⟨B, o, none⟩) l.length cap, .int .i64 24] w (Packs w (packI l 24)) := by
  have HC := Lib.hid hc
  clear hc
  go_enter Try.func24, Try.ntmps24
  go_wp2
  go_loopw [6, 21] (fun v i wr => ∃ k : Nat, k ≤ l.length ∧ i = .int .i64 k ∧ wr.ownsRow w.heap.size 5 1 v (packF l 24 k).length ((packF l 24 k).map (.int .u8)) ∧ (∀ j, j < k → 0 ≤ l.getD j 0 ∧ l.getD j 0 < 2 ^ 24) ∧ Below w.heap.size w wr) (fun _ i _ => l.length - (intOf i).toNat)
  case atStart => exact ⟨0, by omega, rfl, World.ownsRow_nil _ _ _ _, fun j hj => by omega, Below.refl _ _⟩
  case round =>
    obtain ⟨k, hk, rfl, hown, hz, hb⟩ := hrel
    have hOwn := Lib.hid hown
    have HZ := Lib.hid hz
    have hb' := Lib.hid hb
    have hsz := hb.size
    clear hown hb hz
    by_cases hlt : k < l.length
    · have hck := ((bcell hb'.out).1 B (o + k) hB).trans (HC.out k hlt)
      by_cases hgd : 0 ≤ l.getD k 0 ∧ l.getD k 0 < 2 ^ 24
      rotate_left
      · have PB := Lib.hid (packI_bad l 24 k hlt hgd)
        have hx : l.getD k 0 < 0 ∨ 16777216 ≤ l.getD k 0 := by omega
        obtain ⟨x, hx'⟩ : ∃ x, l.getD k 0 = x := ⟨_, rfl⟩
        rw [hx'] at hck hx
        clear hgd hx'
        rcases hx with hx | hx
        all_goals
          go_wp2
          go_ret2
          exact ⟨by rw [PB.out]; rfl, hb'.out⟩
      have hgd := Lib.hid hgd
      obtain ⟨g0, g1⟩ := hgd.out
      obtain ⟨x, hx⟩ : ∃ x, l.getD k 0 = x := ⟨_, rfl⟩
      rw [hx] at hck g0 g1 hgd
      have HX := Lib.hid hx
      clear hx
      have g2 : x < 16777216 := by omega
      clear g1
      go_wp2
      obtain ⟨wo, rfl⟩ : ∃ wo : World, wo = wr := ⟨_, rfl⟩
      go_loopw [6, 38] (fun v i wr => ∃ j : Nat, j ≤ 3 ∧ i = .int .i64 j ∧ wr.ownsRow w.heap.size 5 1 v (packF l 24 k ++ bytesF x j).length ((packF l 24 k ++ bytesF x j).map (.int .u8)) ∧ Below w.heap.size w wr) (fun _ i _ => 3 - (intOf i).toNat)
      case atStart => exact ⟨0, by omega, rfl, by simpa [bytesF] using hOwn.out, hb'.out⟩
      case round =>
        obtain ⟨j, hj, rfl, hown, hb⟩ := hrel
        have hOwn2 := Lib.hid hown
        have hb2 := Lib.hid hb
        have hsz2 := hb.size
        have hlen : (packF l 24 k ++ bytesF x j).length ≤ 5000 := by rw [List.length_append, bytesF_len, packF_len l 24 k (by simp)]; omega
        clear hown hb hsz hck
        by_cases hjl : j < 3
        · go_wp2_with (at_builtin; refine app1 rfl (.tmp 41) (.tmp 47) 86 rfl w.heap.size 5 (.int .u8 0) 1 Try.underlying86 (by kernel_rfl) rfl _ _ _ rfl hOwn2.out _ rfl _ rfl (by omega) (by unfold maxLen; omega) hsz2 ?_; intro v' w1 hown1 hB1 hz1; have O1 := Lib.hid hown1; have B1 := Lib.hid hB1; clear hown1 hB1)
          go_roundw
          case rel => exact ⟨j + 1, by omega, by go_num, owns_eq O1.out (by simp [bytesF_succ]; omega) (by simp [bytesF_succ, byteAt]), B1.out w hb2.out⟩
          case measure => simp [intOf]; omega
        · have hj2 : 3 ≤ j := by omega
          go_wp2
          go_roundw
          case rel => exact ⟨k + 1, by omega, by go_num, owns_eq hOwn2.out (by rw [packF_wide l 24 k (by decide), HX.out, show j = 3 by omega]) (by rw [packF_wide l 24 k (by decide), HX.out, show j = 3 by omega]), good_next HZ.out HX.out hgd.out, hb2.out⟩
          case measure => simp [intOf]; omega
    · have hge : l.length ≤ k := by omega
      have PG := Lib.hid (packI_good l 24 (fun j hj => HZ.out j (by omega)))
      obtain ⟨P, hP⟩ : ∃ P, packF l 24 l.length = P := ⟨_, rfl⟩
      have hOwnP := Lib.hid (show wr.ownsRow w.heap.size 5 1 u6 P.length (P.map (.int .u8)) by rw [← hP, ← show k = l.length by omega]; exact hOwn.out)
      have hPl : P.length ≤ 4000 := by rw [← hP, packF_len l 24 _ (by simp)]; omega
      have HP := Lib.hid hP
      clear hP hOwn hsz
      go_wp2
      obtain ⟨wo, rfl⟩ : ∃ wo : World, wo = wr := ⟨_, rfl⟩
      go_loopw [6] (fun v wr => ∃ j : Nat, j ≤ (4 - P.length % 4) % 4 ∧ wr.ownsRow w.heap.size 5 1 v (P ++ List.replicate j 0).length ((P ++ List.replicate j 0).map (.int .u8)) ∧ Below w.heap.size w wr) (fun v _ => P.length + 4 - slLen v)
      case atStart => exact ⟨0, by omega, by simpa using hOwnP.out, hb'.out⟩
      case round =>
        obtain ⟨j, hj, hown, hb⟩ := hrel
        have hOwn2 := Lib.hid hown
        have hb2 := Lib.hid hb
        have hsz2 := hb.size
        obtain ⟨a, cp, hv⟩ := owns_shape hown
        have hcv := owns_string (P := Try.prog) hown 86 9 5 Try.underlying86 Try.underlying5 Try.underlying9
        obtain ⟨L, hL⟩ : ∃ L, (P ++ List.replicate j 0).length = L := ⟨_, rfl⟩
        have hLj : L = P.length + j := by rw [← hL]; simp
        have LJ := Lib.hid hLj
        have hL2 : L ≤ 4004 := by omega
        rw [hL] at hv hOwn2
        rw [hv] at hcv hOwn2
        rw [hv]
        clear hown hb hL
        by_cases hm : L % 4 = 0
        · have ht : ((L : Int) % 4 != 0) = false := by rw [bne_eq_false_iff_eq]; omega
          have PD := Lib.hid (pad_done P j hj (by omega))
          clear hm hLj
          go_wp2
          go_ret2
          exact ⟨by rw [PG.out, PD.out, HP.out]; rfl, hb2.out⟩
        · have ht : ((L : Int) % 4 != 0) = true := by rw [bne_iff_ne]; omega
          clear hcv hLj
          go_wp2_with (at_builtin; refine app1 rfl (.tmp 84) (.tmp 85) 86 rfl w.heap.size 5 (.int .u8 0) 1 Try.underlying86 (by kernel_rfl) rfl _ _ _ rfl hOwn2.out _ rfl _ rfl (by omega) (by unfold maxLen; omega) hsz2 ?_; intro v' w1 hown1 hB1 hz1; have O1 := Lib.hid hown1; have B1 := Lib.hid hB1; clear hown1 hB1)
          go_roundw
          case rel => exact ⟨j + 1, by have := LJ.out; omega, owns_eq O1.out (by have := LJ.out; simp; omega) (by rw [List.replicate_succ']; simp), B1.out w hb2.out⟩
          case measure =>
            have h1 := owns_shape O1.out
            obtain ⟨a', cp', hv'⟩ := h1
            have := LJ.out
            rw [hv']; simp only [slLen]; omega
set_option maxHeartbeats 2000000 in
theorem dpack_32 (l : List Int) (B : Nat) (o : Nat) (cap : Nat) (w : World) (hB : B < w.heap.size) (hn : l.length ≤ 1000) (hc : ∀ i, i < l.length → w.cell? ⟨B, o + i, none⟩ = some (.int .i64 (l.getD i 0))) :
    Calls Try.prog 24 #[.slice (some ⟨B, o, none⟩) l.length cap, .int .i64 32] w (Packs w (packI l 32)) := by
  have HC := Lib.hid hc
  clear hc
  go_enter Try.func24, Try.ntmps24
  go_wp2
  go_loopw [6, 21] (fun v i wr => ∃ k : Nat, k ≤ l.length ∧ i = .int .i64 k ∧ wr.ownsRow w.heap.size 5 1 v (packF l 32 k).length ((packF l 32 k).map (.int .u8)) ∧ (∀ j, j < k → 0 ≤ l.getD j 0 ∧ l.getD j 0 < 2 ^ 32) ∧ Below w.heap.size w wr) (fun _ i _ => l.length - (intOf i).toNat)
  case atStart => exact ⟨0, by omega, rfl, World.ownsRow_nil _ _ _ _, fun j hj => by omega, Below.refl _ _⟩
  case round =>
    obtain ⟨k, hk, rfl, hown, hz, hb⟩ := hrel
    have hOwn := Lib.hid hown
    have HZ := Lib.hid hz
    have hb' := Lib.hid hb
    have hsz := hb.size
    clear hown hb hz
    by_cases hlt : k < l.length
    · have hck := ((bcell hb'.out).1 B (o + k) hB).trans (HC.out k hlt)
      by_cases hgd : 0 ≤ l.getD k 0 ∧ l.getD k 0 < 2 ^ 32
      rotate_left
      · have PB := Lib.hid (packI_bad l 32 k hlt hgd)
        have hx : l.getD k 0 < 0 ∨ 4294967296 ≤ l.getD k 0 := by omega
        obtain ⟨x, hx'⟩ : ∃ x, l.getD k 0 = x := ⟨_, rfl⟩
        rw [hx'] at hck hx
        clear hgd hx'
        rcases hx with hx | hx
        all_goals
          go_wp2
          go_ret2
          exact ⟨by rw [PB.out]; rfl, hb'.out⟩
      have hgd := Lib.hid hgd
      obtain ⟨g0, g1⟩ := hgd.out
      obtain ⟨x, hx⟩ : ∃ x, l.getD k 0 = x := ⟨_, rfl⟩
      rw [hx] at hck g0 g1 hgd
      have HX := Lib.hid hx
      clear hx
      have g2 : x < 4294967296 := by omega
      clear g1
      go_wp2
      obtain ⟨wo, rfl⟩ : ∃ wo : World, wo = wr := ⟨_, rfl⟩
      go_loopw [6, 38] (fun v i wr => ∃ j : Nat, j ≤ 4 ∧ i = .int .i64 j ∧ wr.ownsRow w.heap.size 5 1 v (packF l 32 k ++ bytesF x j).length ((packF l 32 k ++ bytesF x j).map (.int .u8)) ∧ Below w.heap.size w wr) (fun _ i _ => 4 - (intOf i).toNat)
      case atStart => exact ⟨0, by omega, rfl, by simpa [bytesF] using hOwn.out, hb'.out⟩
      case round =>
        obtain ⟨j, hj, rfl, hown, hb⟩ := hrel
        have hOwn2 := Lib.hid hown
        have hb2 := Lib.hid hb
        have hsz2 := hb.size
        have hlen : (packF l 32 k ++ bytesF x j).length ≤ 5000 := by rw [List.length_append, bytesF_len, packF_len l 32 k (by simp)]; omega
        clear hown hb hsz hck
        by_cases hjl : j < 4
        · go_wp2_with (at_builtin; refine app1 rfl (.tmp 41) (.tmp 47) 86 rfl w.heap.size 5 (.int .u8 0) 1 Try.underlying86 (by kernel_rfl) rfl _ _ _ rfl hOwn2.out _ rfl _ rfl (by omega) (by unfold maxLen; omega) hsz2 ?_; intro v' w1 hown1 hB1 hz1; have O1 := Lib.hid hown1; have B1 := Lib.hid hB1; clear hown1 hB1)
          go_roundw
          case rel => exact ⟨j + 1, by omega, by go_num, owns_eq O1.out (by simp [bytesF_succ]; omega) (by simp [bytesF_succ, byteAt]), B1.out w hb2.out⟩
          case measure => simp [intOf]; omega
        · have hj2 : 4 ≤ j := by omega
          go_wp2
          go_roundw
          case rel => exact ⟨k + 1, by omega, by go_num, owns_eq hOwn2.out (by rw [packF_wide l 32 k (by decide), HX.out, show j = 4 by omega]) (by rw [packF_wide l 32 k (by decide), HX.out, show j = 4 by omega]), good_next HZ.out HX.out hgd.out, hb2.out⟩
          case measure => simp [intOf]; omega
    · have hge : l.length ≤ k := by omega
      have PG := Lib.hid (packI_good l 32 (fun j hj => HZ.out j (by omega)))
      obtain ⟨P, hP⟩ : ∃ P, packF l 32 l.length = P := ⟨_, rfl⟩
      have hOwnP := Lib.hid (show wr.ownsRow w.heap.size 5 1 u6 P.length (P.map (.int .u8)) by rw [← hP, ← show k = l.length by omega]; exact hOwn.out)
      have hPl : P.length ≤ 4000 := by rw [← hP, packF_len l 32 _ (by simp)]; omega
      have HP := Lib.hid hP
      clear hP hOwn hsz
      go_wp2
      obtain ⟨wo, rfl⟩ : ∃ wo : World, wo = wr := ⟨_, rfl⟩
      go_loopw [6] (fun v wr => ∃ j : Nat, j ≤ (4 - P.length % 4) % 4 ∧ wr.ownsRow w.heap.size 5 1 v (P ++ List.replicate j 0).length ((P ++ List.replicate j 0).map (.int .u8)) ∧ Below w.heap.size w wr) (fun v _ => P.length + 4 - slLen v)
      case atStart => exact ⟨0, by omega, by simpa using hOwnP.out, hb'.out⟩
      case round =>
        obtain ⟨j, hj, hown, hb⟩ := hrel
        have hOwn2 := Lib.hid hown
        have hb2 := Lib.hid hb
        have hsz2 := hb.size
        obtain ⟨a, cp, hv⟩ := owns_shape hown
        have hcv := owns_string (P := Try.prog) hown 86 9 5 Try.underlying86 Try.underlying5 Try.underlying9
        obtain ⟨L, hL⟩ : ∃ L, (P ++ List.replicate j 0).length = L := ⟨_, rfl⟩
        have hLj : L = P.length + j := by rw [← hL]; simp
        have LJ := Lib.hid hLj
        have hL2 : L ≤ 4004 := by omega
        rw [hL] at hv hOwn2
        rw [hv] at hcv hOwn2
        rw [hv]
        clear hown hb hL
        by_cases hm : L % 4 = 0
        · have ht : ((L : Int) % 4 != 0) = false := by rw [bne_eq_false_iff_eq]; omega
          have PD := Lib.hid (pad_done P j hj (by omega))
          clear hm hLj
          go_wp2
          go_ret2
          exact ⟨by rw [PG.out, PD.out, HP.out]; rfl, hb2.out⟩
        · have ht : ((L : Int) % 4 != 0) = true := by rw [bne_iff_ne]; omega
          clear hcv hLj
          go_wp2_with (at_builtin; refine app1 rfl (.tmp 84) (.tmp 85) 86 rfl w.heap.size 5 (.int .u8 0) 1 Try.underlying86 (by kernel_rfl) rfl _ _ _ rfl hOwn2.out _ rfl _ rfl (by omega) (by unfold maxLen; omega) hsz2 ?_; intro v' w1 hown1 hB1 hz1; have O1 := Lib.hid hown1; have B1 := Lib.hid hB1; clear hown1 hB1)
          go_roundw
          case rel => exact ⟨j + 1, by have := LJ.out; omega, owns_eq O1.out (by have := LJ.out; simp; omega) (by rw [List.replicate_succ']; simp), B1.out w hb2.out⟩
          case measure =>
            have h1 := owns_shape O1.out
            obtain ⟨a', cp', hv'⟩ := h1
            have := LJ.out
            rw [hv']; simp only [slLen]; omega
end Go.Proofs.Ytobpocdpnkicnaa

/- The reference of layers 7 and 13: Bytes, Plain, Same; walked. -/
import Derived.Test.YtlfbaggcfaenlaaGreatK32
import Derived.Test.YtlfbaggcfaenlaaGreatK24
import Derived.Lib.ConvBytes
import Derived.Test.YtlfbaggcfaenlaaGreatK0
namespace Go.Proofs.YtlfbaggcfaenlaaGreat
open Go.RowKit
set_option linter.unusedVariables false
set_option linter.unusedSimpArgs false
theorem take4_next (D : List Int) (i : Nat) (h : 4 * i + 4 ≤ D.length) : D.take (4 * (i + 1)) = D.take (4 * i) ++ [D.getD (4 * i) 0, D.getD (4 * i + 1) 0, D.getD (4 * i + 2) 0, D.getD (4 * i + 3) 0] := by
  have e : ∀ k, k < D.length → D.take (k + 1) = D.take k ++ [D.getD k 0] := fun k hk => by
    rw [List.take_succ_eq_append_getElem hk, List.getD_eq_getElem?_getD, List.getElem?_eq_getElem hk]; rfl
  rw [show 4 * (i + 1) = 4 * i + 1 + 1 + 1 + 1 by omega, e _ (by omega), e _ (by omega), e _ (by omega), e _ (by omega)]
  simp
theorem u8s_get (D : List Int) (k : Nat) (h : k < D.length) : (u8s D)[k]? = some (.int .u8 (D.getD k 0)) := by
  unfold u8s; rw [List.getElem?_map, List.getElem?_eq_getElem h, List.getD_eq_getElem?_getD, List.getElem?_eq_getElem h]; rfl
set_option maxRecDepth 100000 in
set_option maxHeartbeats 4000000 in
theorem bytes07_any (g n cap : Nat) (D : List Int) (w : World) (hr : w.rangeAt g 0 (u8s D)) (hD : D.length = 4 * n) (hn : n ≤ 1000000) (hg : g < w.heap.size) :
    Calls Tryz.prog 97 #[.slice (some ⟨g, 0, none⟩) n cap] w fun e w' => e = .returned (.string (strOf D)) ∧ Below w.heap.size w w' := by
  have HR := Hi hr
  have HD := Hi hD
  have hO := owns_blockK w ([] : List Int) 5 0 rfl (by decide)
  clear hr hD
  go_enter Tryz.func97, Tryz.ntmps97
  go_wp2_with fail
  go_loopw [3, 4] (fun v c wr => ∃ i : Nat, i ≤ n ∧ c = .int .i64 i ∧ wr.ownsRow w.heap.size 5 1 v (4 * i) ((D.take (4 * i)).map (.int .u8)) ∧ Below w.heap.size w wr) (fun _ c _ => n - (intOf c).toNat)
  case atStart => exact ⟨0, by omega, by first | rfl | simp, by simpa using hO, (Below.refl _ _).alloc (Nat.le_refl _) _⟩
  case round =>
    obtain ⟨i, hi, rfl, hown, hb⟩ := hrel
    obtain ⟨v, rfl⟩ : ∃ v, v = u3 := ⟨_, rfl⟩
    have HO := Hi hown
    have HB := Hi hb
    have hsz := hb.size
    clear hown hb hO
    by_cases hlt : i < n
    rotate_left
    · obtain rfl : i = n := by omega
      have hcv := owns_string (P := Tryz.prog) HO.out 61 9 5 Tryz.underlying61 Tryz.underlying5 Tryz.underlying9
      have hDe := HD.out
      rw [← hDe, List.take_of_length_le (Nat.le_refl _)] at hcv
      clear hDe
      go_wp2_with fail
      go_ret
      exact ⟨rfl, HB.out⟩
    · obtain ⟨x0, hx0⟩ : ∃ x, D.getD (4 * i) 0 = x := ⟨_, rfl⟩
      obtain ⟨x1, hx1⟩ : ∃ x, D.getD (4 * i + 1) 0 = x := ⟨_, rfl⟩
      obtain ⟨x2, hx2⟩ : ∃ x, D.getD (4 * i + 2) 0 = x := ⟨_, rfl⟩
      obtain ⟨x3, hx3⟩ : ∃ x, D.getD (4 * i + 3) 0 = x := ⟨_, rfl⟩
      have HTK := Hi (show D.take (4 * (i + 1)) = D.take (4 * i) ++ [x0, x1, x2, x3] by rw [take4_next D i (by have := HD.out; omega), hx0, hx1, hx2, hx3])
      have key : ∀ w0, Below w.heap.size w w0 → ∀ k, 4 * i + k < D.length → w0.cell? ⟨g, i * 4 + k, none⟩ = some (.int .u8 (D.getD (4 * i + k) 0)) := fun w0 hb k hk => by
        rw [World.cell?_of_block (w := w) (hb.block g hg)]
        have := HR.out (4 * i + k) _ (u8s_get D (4 * i + k) hk)
        rw [Nat.zero_add] at this
        rw [show i * 4 + k = 4 * i + k by omega]; exact this
      have KEY := Hi (fun w0 (hb : Below w.heap.size w w0) => (show w0.cell? ⟨g, i * 4, none⟩ = some (.int .u8 x0) ∧ w0.cell? ⟨g, i * 4 + 1, none⟩ = some (.int .u8 x1) ∧ w0.cell? ⟨g, i * 4 + 2, none⟩ = some (.int .u8 x2) ∧ w0.cell? ⟨g, i * 4 + 3, none⟩ = some (.int .u8 x3) from by
        have hDl := HD.out
        rw [← hx0, ← hx1, ← hx2, ← hx3]
        exact ⟨key w0 hb 0 (by omega), key w0 hb 1 (by omega), key w0 hb 2 (by omega), key w0 hb 3 (by omega)⟩))
      clear key hx0 hx1 hx2 hx3
      obtain ⟨i0, hi0, hz0, hz1, hz2'⟩ := info_parts (P := Tryz.prog) (e := 5) (z := .int .u8 0) (size := 1) (bytes := 1) (by kernel_rfl)
      have hDl := HD.out
      go_upto_region 5 with (fail)
      refine wp_region_noPanic ?_
      refine wp_region_held_drew (S := fun w' => Below w.heap.size w w') (by kernel_rfl) HB.out.drew (fun hHeld => ?_)
      refine wpAnyH_take (i := 0) (v := v) rfl (by kernel_rfl) (by kernel_rfl) (by kernel_rfl) (fun _ _ _ h => h) (Or.inl ⟨by rfl, fun w hS => by (go_simp) <;> first | rfl | assumption | (intro hh; exfalso; omega) | (exact (i64_wraps _ (by omega) (by omega)).trans (by omega)) | omega⟩) hHeld ?_
      simp only [Act.put, zq1, zq2, zq3, zq4, zq5, zq6]
      refine wpAnyH_take (i := 1) (v := .slice (some ⟨g, 0, none⟩) n cap) rfl (by kernel_rfl) (by kernel_rfl) (by kernel_rfl) (fun _ _ _ h => h) (Or.inl ⟨by rfl, fun w hS => by (go_simp) <;> first | rfl | assumption | (intro hh; exfalso; omega) | (exact (i64_wraps _ (by omega) (by omega)).trans (by omega)) | omega⟩) hHeld ?_
      simp only [Act.put, zq1, zq2, zq3, zq4, zq5, zq6]
      refine wpAnyH_take (i := 2) (v := .int .i64 (i : Int)) rfl (by kernel_rfl) (by kernel_rfl) (by kernel_rfl) (fun _ _ _ h => h) (Or.inl ⟨by rfl, fun w hS => by (go_simp) <;> first | rfl | assumption | (intro hh; exfalso; omega) | (exact (i64_wraps _ (by omega) (by omega)).trans (by omega)) | omega⟩) hHeld ?_
      simp only [Act.put, zq1, zq2, zq3, zq4, zq5, zq6]
      refine wpAnyH_take (i := 3) (v := .pointer (some ⟨g, i * 4, none⟩)) rfl (by kernel_rfl) (by kernel_rfl) (by kernel_rfl) (fun _ _ _ h => h) (Or.inl ⟨by rfl, fun w hS => by (go_simp) <;> first | rfl | (intro hh; exfalso; omega) | (refine (if_pos ⟨by omega, by omega⟩).trans ?_; exact congrArg (fun z => Result.ok (Next.value (Value.pointer (some ⟨g, z, none⟩))) w) (by omega))⟩) hHeld ?_
      simp only [Act.put, zq1, zq2, zq3, zq4, zq5, zq6]
      refine wpAnyH_take (i := 4) (v := .pointer (some ⟨g, i * 4, none⟩)) rfl (by kernel_rfl) (by kernel_rfl) (by kernel_rfl) (fun _ _ _ h => h) (Or.inl ⟨by rfl, fun w hS => by (go_simp) <;> first | rfl | assumption | (intro hh; exfalso; omega) | (exact (i64_wraps _ (by omega) (by omega)).trans (by omega)) | omega⟩) hHeld ?_
      simp only [Act.put, zq1, zq2, zq3, zq4, zq5, zq6]
      refine wpAnyH_take (i := 5) (v := .int .u8 x0) rfl (by kernel_rfl) (by kernel_rfl) (by kernel_rfl) (fun _ _ _ h => h) (Or.inl ⟨by rfl, fun w hS => by (have hc : w.cell? ⟨g, i * 4, none⟩ = some (.int .u8 x0) := (KEY.out _ hS).1; go_simp)⟩) hHeld ?_
      simp only [Act.put, zq1, zq2, zq3, zq4, zq5, zq6]
      refine wpAnyH_take (i := 6) (v := .slice (some ⟨g, 0, none⟩) n cap) rfl (by kernel_rfl) (by kernel_rfl) (by kernel_rfl) (fun _ _ _ h => h) (Or.inl ⟨by rfl, fun w hS => by (go_simp) <;> first | rfl | assumption | (intro hh; exfalso; omega) | (exact (i64_wraps _ (by omega) (by omega)).trans (by omega)) | omega⟩) hHeld ?_
      simp only [Act.put, zq1, zq2, zq3, zq4, zq5, zq6]
      refine wpAnyH_take (i := 7) (v := .int .i64 (i : Int)) rfl (by kernel_rfl) (by kernel_rfl) (by kernel_rfl) (fun _ _ _ h => h) (Or.inl ⟨by rfl, fun w hS => by (go_simp) <;> first | rfl | assumption | (intro hh; exfalso; omega) | (exact (i64_wraps _ (by omega) (by omega)).trans (by omega)) | omega⟩) hHeld ?_
      simp only [Act.put, zq1, zq2, zq3, zq4, zq5, zq6]
      refine wpAnyH_take (i := 8) (v := .pointer (some ⟨g, i * 4, none⟩)) rfl (by kernel_rfl) (by kernel_rfl) (by kernel_rfl) (fun _ _ _ h => h) (Or.inl ⟨by rfl, fun w hS => by (go_simp) <;> first | rfl | (intro hh; exfalso; omega) | (refine (if_pos ⟨by omega, by omega⟩).trans ?_; exact congrArg (fun z => Result.ok (Next.value (Value.pointer (some ⟨g, z, none⟩))) w) (by omega))⟩) hHeld ?_
      simp only [Act.put, zq1, zq2, zq3, zq4, zq5, zq6]
      refine wpAnyH_take (i := 9) (v := .pointer (some ⟨g, i * 4 + 1, none⟩)) rfl (by kernel_rfl) (by kernel_rfl) (by kernel_rfl) (fun _ _ _ h => h) (Or.inl ⟨by rfl, fun w hS => by (go_simp) <;> first | rfl | assumption | (intro hh; exfalso; omega) | (exact (i64_wraps _ (by omega) (by omega)).trans (by omega)) | omega⟩) hHeld ?_
      simp only [Act.put, zq1, zq2, zq3, zq4, zq5, zq6]
      refine wpAnyH_take (i := 10) (v := .int .u8 x1) rfl (by kernel_rfl) (by kernel_rfl) (by kernel_rfl) (fun _ _ _ h => h) (Or.inl ⟨by rfl, fun w hS => by (have hc : w.cell? ⟨g, i * 4 + 1, none⟩ = some (.int .u8 x1) := (KEY.out _ hS).2.1; go_simp)⟩) hHeld ?_
      simp only [Act.put, zq1, zq2, zq3, zq4, zq5, zq6]
      refine wpAnyH_take (i := 11) (v := .slice (some ⟨g, 0, none⟩) n cap) rfl (by kernel_rfl) (by kernel_rfl) (by kernel_rfl) (fun _ _ _ h => h) (Or.inl ⟨by rfl, fun w hS => by (go_simp) <;> first | rfl | assumption | (intro hh; exfalso; omega) | (exact (i64_wraps _ (by omega) (by omega)).trans (by omega)) | omega⟩) hHeld ?_
      simp only [Act.put, zq1, zq2, zq3, zq4, zq5, zq6]
      refine wpAnyH_take (i := 12) (v := .int .i64 (i : Int)) rfl (by kernel_rfl) (by kernel_rfl) (by kernel_rfl) (fun _ _ _ h => h) (Or.inl ⟨by rfl, fun w hS => by (go_simp) <;> first | rfl | assumption | (intro hh; exfalso; omega) | (exact (i64_wraps _ (by omega) (by omega)).trans (by omega)) | omega⟩) hHeld ?_
      simp only [Act.put, zq1, zq2, zq3, zq4, zq5, zq6]
      refine wpAnyH_take (i := 13) (v := .pointer (some ⟨g, i * 4, none⟩)) rfl (by kernel_rfl) (by kernel_rfl) (by kernel_rfl) (fun _ _ _ h => h) (Or.inl ⟨by rfl, fun w hS => by (go_simp) <;> first | rfl | (intro hh; exfalso; omega) | (refine (if_pos ⟨by omega, by omega⟩).trans ?_; exact congrArg (fun z => Result.ok (Next.value (Value.pointer (some ⟨g, z, none⟩))) w) (by omega))⟩) hHeld ?_
      simp only [Act.put, zq1, zq2, zq3, zq4, zq5, zq6]
      refine wpAnyH_take (i := 14) (v := .pointer (some ⟨g, i * 4 + 2, none⟩)) rfl (by kernel_rfl) (by kernel_rfl) (by kernel_rfl) (fun _ _ _ h => h) (Or.inl ⟨by rfl, fun w hS => by (go_simp) <;> first | rfl | assumption | (intro hh; exfalso; omega) | (exact (i64_wraps _ (by omega) (by omega)).trans (by omega)) | omega⟩) hHeld ?_
      simp only [Act.put, zq1, zq2, zq3, zq4, zq5, zq6]
      refine wpAnyH_take (i := 15) (v := .int .u8 x2) rfl (by kernel_rfl) (by kernel_rfl) (by kernel_rfl) (fun _ _ _ h => h) (Or.inl ⟨by rfl, fun w hS => by (have hc : w.cell? ⟨g, i * 4 + 2, none⟩ = some (.int .u8 x2) := (KEY.out _ hS).2.2.1; go_simp)⟩) hHeld ?_
      simp only [Act.put, zq1, zq2, zq3, zq4, zq5, zq6]
      refine wpAnyH_take (i := 16) (v := .slice (some ⟨g, 0, none⟩) n cap) rfl (by kernel_rfl) (by kernel_rfl) (by kernel_rfl) (fun _ _ _ h => h) (Or.inl ⟨by rfl, fun w hS => by (go_simp) <;> first | rfl | assumption | (intro hh; exfalso; omega) | (exact (i64_wraps _ (by omega) (by omega)).trans (by omega)) | omega⟩) hHeld ?_
      simp only [Act.put, zq1, zq2, zq3, zq4, zq5, zq6]
      refine wpAnyH_take (i := 17) (v := .int .i64 (i : Int)) rfl (by kernel_rfl) (by kernel_rfl) (by kernel_rfl) (fun _ _ _ h => h) (Or.inl ⟨by rfl, fun w hS => by (go_simp) <;> first | rfl | assumption | (intro hh; exfalso; omega) | (exact (i64_wraps _ (by omega) (by omega)).trans (by omega)) | omega⟩) hHeld ?_
      simp only [Act.put, zq1, zq2, zq3, zq4, zq5, zq6]
      refine wpAnyH_take (i := 18) (v := .pointer (some ⟨g, i * 4, none⟩)) rfl (by kernel_rfl) (by kernel_rfl) (by kernel_rfl) (fun _ _ _ h => h) (Or.inl ⟨by rfl, fun w hS => by (go_simp) <;> first | rfl | (intro hh; exfalso; omega) | (refine (if_pos ⟨by omega, by omega⟩).trans ?_; exact congrArg (fun z => Result.ok (Next.value (Value.pointer (some ⟨g, z, none⟩))) w) (by omega))⟩) hHeld ?_
      simp only [Act.put, zq1, zq2, zq3, zq4, zq5, zq6]
      refine wpAnyH_take (i := 19) (v := .pointer (some ⟨g, i * 4 + 3, none⟩)) rfl (by kernel_rfl) (by kernel_rfl) (by kernel_rfl) (fun _ _ _ h => h) (Or.inl ⟨by rfl, fun w hS => by (go_simp) <;> first | rfl | assumption | (intro hh; exfalso; omega) | (exact (i64_wraps _ (by omega) (by omega)).trans (by omega)) | omega⟩) hHeld ?_
      simp only [Act.put, zq1, zq2, zq3, zq4, zq5, zq6]
      refine wpAnyH_take (i := 20) (v := .int .u8 x3) rfl (by kernel_rfl) (by kernel_rfl) (by kernel_rfl) (fun _ _ _ h => h) (Or.inl ⟨by rfl, fun w hS => by (have hc : w.cell? ⟨g, i * 4 + 3, none⟩ = some (.int .u8 x3) := (KEY.out _ hS).2.2.2; go_simp)⟩) hHeld ?_
      simp only [Act.put, zq1, zq2, zq3, zq4, zq5, zq6]
      have hS := HB.out.drew
      have HOd := Hi HO.out.drew
      generalize World.drew _ = wk at hS HOd ⊢
      refine wpAnyH_ready (rs := [21]) (by kernel_rfl) (by simp) ?_
      refine AllReadyH.cons (o := _) rfl (fun K' hK => ?_) AllReadyH.nil
      rw [if_pos (by rfl)]
      go_simp
      have hO2 := Hi (HOd.out.alloc (.cells (List.toArray [.int .u8 x0, .int .u8 x1, .int .u8 x2, .int .u8 x3]) 5))
      have hz := hS.size
      have ON := Hi (obj1_new wk (List.toArray [.int .u8 x0, .int .u8 x1, .int .u8 x2, .int .u8 x3]) 5)
      have hS2 := hS.alloc hz (.cells (List.toArray [.int .u8 x0, .int .u8 x1, .int .u8 x2, .int .u8 x3]) 5)
      obtain ⟨dk, hdk⟩ : ∃ b, wk.heap.size = b := ⟨_, rfl⟩
      rw [hdk] at ON
      have hz2 : (wk.alloc (.cells (List.toArray [.int .u8 x0, .int .u8 x1, .int .u8 x2, .int .u8 x3]) 5)).heap.size = dk + 1 := by rw [← hdk]; simp
      rw [hdk] at hz
      generalize World.alloc _ _ = wl at hO2 ON hS2 hz2 ⊢
      refine hK _ _ hS2 (fun hH2 => ?_)
      clear hK K'
      try rw [hdk]
      try simp only [Act.put, zq1, zq2, zq3, zq4, zq5, zq6]
      refine wpAnyH_ready (rs := [22]) (by kernel_rfl) (by simp) ?_
      refine AllReadyH.cons (o := _) rfl (fun K' hK => ?_) AllReadyH.nil
      refine step_append_lies (w := wl) (by rfl) _ _ _ (by rfl) w.heap.size 5 i0 (.int .u8 0) 1 1 Tryz.underlying61 hi0 hz0 hz1 hz2' rfl (by decide) v (4 * i) ((D.take (4 * i)).map (.int .u8)) (by rfl) hO2.out ⟨dk, 0, none⟩ 4 4 [.int .u8 x0, .int .u8 x1, .int .u8 x2, .int .u8 x3] (by rfl) rfl (fun j u hj => news_obj ON.out j u hj) (by intro u hu; simp at hu; rcases hu with rfl | rfl | rfl | rfl <;> rfl) (by decide) (by unfold maxLen; omega) (by omega) (by omega) (dk + 1) hz2 ?_
      intro g2 cap2 w2 hown2 hgrow hat hlt2
      have hS3 := hS2.grown hgrow (by omega) (fun k hk => (owns_blk HO.out hk).1)
      refine hK _ _ hS3 (fun hH3 => ?_)
      clear hK K'
      try simp only [Act.put, zq1, zq2, zq3, zq4, zq5, zq6]
      refine wpAnyH_take (i := 23) (v := .slice (some ⟨g2, 0, none⟩) (4 * i + 4) cap2) rfl (by kernel_rfl) (by kernel_rfl) (by kernel_rfl) (fun _ _ _ h => h) (Or.inl ⟨by rfl, fun w hS => by go_simp⟩) hH3 ?_
      simp only [Act.put, zq1, zq2, zq3, zq4, zq5, zq6]
      refine wpAnyH_done (by kernel_rfl) ?_ _
      refine NoPanic.normal ?_
      have O2 := Hi hown2
      have B2 := Hi hS3
      clear hown2 hgrow hat hlt2 hS hS2 hS3 hz hz2 hdk hi0 hz0 hz1 hz2' hDl hH3 hHeld hH2
      go_wp2_with fail
      go_roundw
      case rel => exact ⟨i + 1, by omega, by go_num, owns_eq O2.out (by omega) (by rw [HTK.out, List.map_append]; rfl), B2.out⟩
      case measure => simp [intOf]; omega
theorem bytesWorld_below (w : World) (e : TypeId) (s : ByteArray) : Below w.heap.size w (Lib.bytesWorld w e s) :=
  ⟨rfl, rfl, rfl, by rw [Lib.bytesWorld_size]; omega, fun k hk => Lib.bytesWorld_at_old w e s k hk⟩
theorem bytesWorld_range (w : World) (e : TypeId) (D : List Int) (hb : ∀ x ∈ D, 0 ≤ x ∧ x < 256) : (Lib.bytesWorld w e (strOf D)).rangeAt w.heap.size 0 (u8s D) := fun j v hv => by
  unfold u8s at hv
  rw [List.getElem?_map] at hv
  cases hx : D[j]? with
  | none => rw [hx] at hv; cases hv
  | some x =>
    rw [hx] at hv
    have hj : j < D.length := (List.getElem?_eq_some_iff.1 hx).1
    have hm : x ∈ D := List.mem_of_getElem? hx
    have := Lib.bytesWorld_cell w e (strOf D) j (by rw [strOf_size3]; exact hj)
    rw [Nat.zero_add, this, ← hv]
    have h2 := byN_strOf3 D j x hx (hb x hm).1 (hb x hm).2
    unfold byN at h2
    rw [h2]; rfl
set_option maxRecDepth 100000 in
set_option maxHeartbeats 4000000 in
theorem plain13_any (W H : Int) (g n cap : Nat) (D : List Int) (w : World) (hr : w.rangeAt g 0 (u8s D)) (hD : D.length = 4 * n) (hn : n ≤ 1000000) (hg : g < w.heap.size) (hb : ∀ x ∈ D, 0 ≤ x ∧ x < 256) :
    Calls Tryz.prog 28 #[.agg (List.toArray [.int .i64 W, .int .i64 H, .slice (some ⟨g, 0, none⟩) n cap, .int .i64 0, .int .i64 0])] w fun e w' =>
      ∃ gp cp, e = .returned (.agg (List.toArray [.int .i64 W, .int .i64 H, .slice (some ⟨gp, 0, none⟩) D.length cp])) ∧ w'.rangeAt gp 0 (u8s D) ∧ gp < w'.heap.size ∧ Below w.heap.size w w' := by
  have HBY := Hi (fun w0 (h0 : w0.rangeAt g 0 (u8s D)) (hg0 : g < w0.heap.size) => bytes07_any g n cap D w0 h0 hD hn hg0)
  have HR := Hi hr
  have HDB := Hi hb
  have O1 := Hi ((obj1_new w (List.toArray [.int .i64 W, .int .i64 H, .slice (some ⟨g, 0, none⟩) n cap, .int .i64 0, .int .i64 0]) 59).alloc (.cells #[.int .i64 0, .int .i64 0, .slice none 0 0] 63))
  have O2 := Hi (obj1_new (w.alloc (.cells (List.toArray [.int .i64 W, .int .i64 H, .slice (some ⟨g, 0, none⟩) n cap, .int .i64 0, .int .i64 0]) 59)) #[.int .i64 0, .int .i64 0, .slice none 0 0] 63)
  have BL := Hi (((Below.refl w.heap.size w).alloc (Nat.le_refl _) (.cells (List.toArray [.int .i64 W, .int .i64 H, .slice (some ⟨g, 0, none⟩) n cap, .int .i64 0, .int .i64 0]) 59)).alloc (by simp) (.cells #[.int .i64 0, .int .i64 0, .slice none 0 0] 63))
  obtain ⟨d, hd⟩ : ∃ d, w.heap.size = d := ⟨_, rfl⟩
  have HDe := Hi hd
  rw [show (w.alloc (.cells (List.toArray [.int .i64 W, .int .i64 H, .slice (some ⟨g, 0, none⟩) n cap, .int .i64 0, .int .i64 0]) 59)).heap.size = d + 1 by rw [← hd]; simp] at O2
  rw [hd] at O1 hg
  clear hr hD hb
  go_enter Tryz.func28, Tryz.ntmps28
  go_upto_region 1 with (fail)
  clear hd
  generalize World.alloc _ _ = wr at O1 O2 BL ⊢
  refine wp_region_noPanic ?_
  refine wp_region_held_drew (S := fun w' => Obj1 w' d (List.toArray [.int .i64 W, .int .i64 H, .slice (some ⟨g, 0, none⟩) n cap, .int .i64 0, .int .i64 0]) 59) (by kernel_rfl) O1.out.drew (fun hHeld => ?_)
  refine wpAnyH_take (i := 0) (v := .pointer (some ⟨d, 0, none⟩)) rfl (by kernel_rfl) (by kernel_rfl) (by kernel_rfl) (fun _ _ _ h => h) (Or.inl ⟨by rfl, fun w hS => by (go_simp) <;> first | rfl | assumption | (intro hh; exfalso; omega) | (exact (i64_wraps _ (by omega) (by omega)).trans (by omega)) | omega⟩) hHeld ?_
  simp only [Act.put, zq1, zq2, zq3, zq4, zq5, zq6]
  refine wpAnyH_take (i := 1) (v := .int .i64 W) rfl (by kernel_rfl) (by kernel_rfl) (by kernel_rfl) (fun _ _ _ h => h) (Or.inl ⟨by rfl, fun w hS => by (have hc : w.cell? ⟨d, 0, none⟩ = some (.int .i64 W) := (hS.cell 0).trans rfl; go_simp)⟩) hHeld ?_
  simp only [Act.put, zq1, zq2, zq3, zq4, zq5, zq6]
  refine wpAnyH_take (i := 2) (v := .pointer (some ⟨d, 1, none⟩)) rfl (by kernel_rfl) (by kernel_rfl) (by kernel_rfl) (fun _ _ _ h => h) (Or.inl ⟨by rfl, fun w hS => by (go_simp) <;> first | rfl | assumption | (intro hh; exfalso; omega) | (exact (i64_wraps _ (by omega) (by omega)).trans (by omega)) | omega⟩) hHeld ?_
  simp only [Act.put, zq1, zq2, zq3, zq4, zq5, zq6]
  refine wpAnyH_take (i := 3) (v := .int .i64 H) rfl (by kernel_rfl) (by kernel_rfl) (by kernel_rfl) (fun _ _ _ h => h) (Or.inl ⟨by rfl, fun w hS => by (have hc : w.cell? ⟨d, 1, none⟩ = some (.int .i64 H) := (hS.cell 1).trans rfl; go_simp)⟩) hHeld ?_
  simp only [Act.put, zq1, zq2, zq3, zq4, zq5, zq6]
  refine wpAnyH_take (i := 4) (v := .pointer (some ⟨d, 2, none⟩)) rfl (by kernel_rfl) (by kernel_rfl) (by kernel_rfl) (fun _ _ _ h => h) (Or.inl ⟨by rfl, fun w hS => by (go_simp) <;> first | rfl | assumption | (intro hh; exfalso; omega) | (exact (i64_wraps _ (by omega) (by omega)).trans (by omega)) | omega⟩) hHeld ?_
  simp only [Act.put, zq1, zq2, zq3, zq4, zq5, zq6]
  refine wpAnyH_take (i := 5) (v := .slice (some ⟨g, 0, none⟩) n cap) rfl (by kernel_rfl) (by kernel_rfl) (by kernel_rfl) (fun _ _ _ h => h) (Or.inl ⟨by rfl, fun w hS => by (have hc : w.cell? ⟨d, 2, none⟩ = some (.slice (some ⟨g, 0, none⟩) n cap) := (hS.cell 2).trans rfl; go_simp)⟩) hHeld ?_
  simp only [Act.put, zq1, zq2, zq3, zq4, zq5, zq6]
  have hS := O1.out.drew
  have BLd := Hi BL.out.drew
  have O2d := Hi O2.out.drew
  generalize World.drew _ = wk at hS BLd O2d ⊢
  refine wpAnyH_ready (rs := [6]) (by kernel_rfl) (by simp) ?_
  refine AllReadyH.cons (o := _) rfl (fun K' hK => ?_) AllReadyH.nil
  go_simp
  with_reducible refine (HBY.out _ (range_below HR.out BLd.out (by have := HDe.out; omega)) (by have := BLd.out.size; have := HDe.out; omega)).mono ?_
  rintro e7 w7 ⟨rfl, hb7⟩
  go_wp2_with fail
  have hz7 := O2d.out.lt
  have BL7 := Hi (bthen hb7 BLd.out BLd.out.size)
  have O27 := Hi (O2d.out.below hb7 O2d.out.lt)
  have hS7 := hS.below hb7 hS.lt
  refine hK _ _ hS7 (fun hH2 => ?_)
  clear hK K'
  try simp only [Act.put, zq1, zq2, zq3, zq4, zq5, zq6]
  refine wpAnyH_ready (rs := [7]) (by kernel_rfl) (by simp) ?_
  refine AllReadyH.cons (o := _) rfl (fun K' hK => ?_) AllReadyH.nil
  go_simp
  rw [Lib.run_convert_string_bytes w7 9 61 5 (strOf D) Tryz.underlying9 Tryz.underlying61 Tryz.underlying5]
  go_simp
  have hbw := bytesWorld_below w7 5 (strOf D)
  have hrw := bytesWorld_range w7 5 D HDB.out
  have hgw : w7.heap.size < (Lib.bytesWorld w7 5 (strOf D)).heap.size := by rw [Lib.bytesWorld_size]; omega
  have hS8 := hS7.below hbw hS7.lt
  have O28 := Hi (O27.out.below hbw O27.out.lt)
  have BL8 := Hi (bthen hbw BL7.out BL7.out.size)
  have HSZ := Hi (strOf_size3 D)
  obtain ⟨cp, hcp⟩ : ∃ c, grownCap w7 (strOf D).size 0 5 = c := ⟨_, rfl⟩
  rw [hcp, HSZ.out]
  have hlz := O27.out.lt
  generalize w7.heap.size = gp at hrw hgw hlz ⊢
  generalize Lib.bytesWorld w7 5 (strOf D) = w8 at hS8 O28 BL8 hrw hgw ⊢
  clear hbw hcp hS7 hb7 hz7
  refine hK _ _ hS8 (fun hH3 => ?_)
  clear hK K'
  try simp only [Act.put, zq1, zq2, zq3, zq4, zq5, zq6]
  refine wpAnyH_take (i := 8) (v := .agg (List.toArray [.int .i64 W, .int .i64 H, .slice (some ⟨gp, 0, none⟩) D.length cp])) rfl (by kernel_rfl) (by kernel_rfl) (by kernel_rfl) (fun _ _ _ h => h) (Or.inl ⟨by rfl, fun w hS => by go_simp⟩) hH3 ?_
  simp only [Act.put, zq1, zq2, zq3, zq4, zq5, zq6]
  refine wpAnyH_ready (rs := [9]) (by kernel_rfl) (by simp) ?_
  refine AllReadyH.cons (o := _) rfl (fun K' hK => ?_) AllReadyH.nil
  rw [if_pos (by rfl)]
  refine wp_store_mid 63 _ _ rfl (d + 1) 0 (List.toArray [.int .i64 W, .int .i64 H, .slice (some ⟨gp, 0, none⟩) D.length cp]) rfl rfl (by have := O28.out.there 0 3 (by simp); simpa using this) (by kernel_rfl) (all_oneCell_toArray (List.all_eq_true.1 (by rfl))) ?_
  simp only [Act.put, zq1, zq2, zq3, zq4, zq5, zq6]
  have hst : Stored w8 (d + 1) 0 [.int .i64 W, .int .i64 H, .slice (some ⟨gp, 0, none⟩) D.length cp] (w8.setCells (d + 1) 0 [.int .i64 W, .int .i64 H, .slice (some ⟨gp, 0, none⟩) D.length cp]) := rfl
  have O29 := Hi (hst.whole O28.out rfl)
  have hS9 := hst.oth hS8 (by omega)
  have BL9 := Hi (hst.below BL8.out (by have := HDe.out; omega))
  have hcs := Stored.chgS (S := fun k => k = d + 1) hst (Chg.refl _ _) (Or.inl rfl)
  have HR9 := Hi (range_chgU hrw hcs hgw (show ¬ gp = d + 1 by omega))
  have HG9 := Hi (Nat.lt_of_lt_of_le hgw hcs.size)
  generalize World.setCells _ _ _ _ = w9 at O29 BL9 HR9 HG9 hS9 ⊢
  clear hst hcs
  refine hK _ _ hS9 (fun hH4 => ?_)
  clear hK K'
  refine wpAnyH_done (by kernel_rfl) ?_ _
  refine NoPanic.normal ?_
  go_wp2_with fail
  refine bodyPost_ret (v := .agg (List.toArray [.int .i64 W, .int .i64 H, .slice (some ⟨gp, 0, none⟩) D.length cp])) ?_ rfl ⟨gp, cp, rfl, HR9.out, HG9.out, BL9.out⟩
  exact results_c Tryz.results28 _ _ _ [.int .i64 W, .int .i64 H, .slice (some ⟨gp, 0, none⟩) D.length cp] _ rfl O29.out.range0 Tryz.underlying63 rfl (by kernel_rfl)
theorem range_string {P : Program} {w : World} {g : Nat} {D : List Int} (h : w.rangeAt g 0 (u8s D)) (n c : Nat) (hn : D.length = n) (src dst e' : TypeId)
    (hs : P.underlying src = some (.slice e')) (he : P.underlying e' = some (.int .u8)) (hd : P.underlying dst = some .string) : (convert src dst (.slice (some ⟨g, 0, none⟩) n c)).run P w = .ok (.string (strOf D)) w := by
  rw [run_convert_bytes_string w src dst e' _ n c hs he hd]
  refine run_bytesToString w _ n c D ?_
  have := run_loadCells_list (P := P) w ⟨g, 0, none⟩ (D.map (Value.int .u8)) (fun j v hv => by
    rw [Addr.add_mid]; exact h j v hv)
  rw [List.length_map, hn] at this; exact this
set_option maxRecDepth 100000 in
set_option maxHeartbeats 4000000 in
theorem same07_any (W H : Int) (g1 c1 g2 c2 n : Nat) (D : List Int) (w : World) (h1 : w.rangeAt g1 0 (u8s D)) (h2 : w.rangeAt g2 0 (u8s D)) (hn : D.length = n) (l1 : g1 < w.heap.size) (l2 : g2 < w.heap.size) :
    Calls Tryz.prog 27 #[.agg (List.toArray [.int .i64 W, .int .i64 H, .slice (some ⟨g1, 0, none⟩) n c1]), .agg (List.toArray [.int .i64 W, .int .i64 H, .slice (some ⟨g2, 0, none⟩) n c2])] w fun e w' => e = .returned (.bool true) ∧ Below w.heap.size w w' := by
  have BL := ((Below.refl w.heap.size w).alloc (Nat.le_refl _) (.cells (List.toArray [.int .i64 W, .int .i64 H, .slice (some ⟨g1, 0, none⟩) n c1]) 63)).alloc (by simp) (.cells (List.toArray [.int .i64 W, .int .i64 H, .slice (some ⟨g2, 0, none⟩) n c2]) 63)
  have R1 := range_below h1 BL l1
  have R2 := range_below h2 BL l2
  have v1 := range_string (P := Tryz.prog) R1 n c1 hn 61 9 5 Tryz.underlying61 Tryz.underlying5 Tryz.underlying9
  have v2 := range_string (P := Tryz.prog) R2 n c2 hn 61 9 5 Tryz.underlying61 Tryz.underlying5 Tryz.underlying9
  have HB := Hi BL
  clear h1 h2 hn R1 R2 BL
  go_enter Tryz.func27, Tryz.ntmps27
  go_wp2
  go_ret
  exact ⟨rfl, HB.out⟩
end Go.Proofs.YtlfbaggcfaenlaaGreat

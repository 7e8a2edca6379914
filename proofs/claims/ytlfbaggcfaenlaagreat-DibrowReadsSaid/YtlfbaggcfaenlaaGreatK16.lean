/- A palette's New, Add; walked. -/
import Derived.Test.YtlfbaggcfaenlaaGreatK15
import Derived.Test.YtlfbaggcfaenlaaGreatK0
namespace Go.Proofs.YtlfbaggcfaenlaaGreat
open Go.RowKit
set_option linter.unusedVariables false
set_option linter.unusedSimpArgs false
def PNewPost (w : World) (L : Nat) (s : Led) (m : Int) (e : Ending) (w' : World) : Prop :=
  (if ¬ (1 ≤ m ∧ m ≤ 65536) then e = .returned (.tuple #[.pointer none, .int .i64 2]) ∧ LedAt w' L s else
   if (s.take (4 * m)).2 = false then e = .returned (.tuple #[.pointer none, .int .i64 4]) ∧ LedAt w' L (s.take (4 * m)).1 else
   ∃ P B g, e = .returned (.tuple #[.pointer (some ⟨P, 0, none⟩), .int .i64 0]) ∧ LedAt w' L (s.take (4 * m)).1 ∧
     PalAt w' P ⟨B, ⟨L, g, zeros8 (4 * m.toNat), true⟩, 0, m.toNat⟩ ∧ w.heap.size ≤ P ∧ w.heap.size ≤ B ∧ w.heap.size ≤ g) ∧ Chg (· = L) w w'
set_option maxRecDepth 100000 in
set_option maxHeartbeats 8000000 in
theorem pnew_any (L : Nat) (s : Led) (m : Int) (w : World) (h : LedAt w L s) : Calls Tryz.prog 72 #[.pointer (some ⟨L, 0, none⟩), .int .i64 m] w (PNewPost w L s m) := by
  have HL := Hi h
  have hll := h.lt
  by_cases ha : 1 ≤ m ∧ m ≤ 65536
  rotate_left
  · have HN := Hi ha
    clear h
    rcases (show m < 1 ∨ (¬ m < 1 ∧ 65536 < m) by omega) with h1 | ⟨h1, h2⟩
    all_goals
      clear ha
      go_enter Tryz.func72, Tryz.ntmps72
      go_wp2_with ((with_reducible refine skip_g rfl ?_ ?_); rfl; intro _)
      go_ret2
      unfold PNewPost
      rw [if_pos HN.out]
      exact ⟨⟨rfl, HL.out⟩, Chg.refl _ _⟩
  have HY := Hi ha
  obtain ⟨m, rfl⟩ := Int.eq_ofNat_of_zero_le (show 0 ≤ m by omega)
  have HMK := Hi ((bmake_any L s (4 * (m : Int)) w h (by omega)).mono (R' := fun e w' =>
      (if (s.take (4 * (m : Int))).2 = false then e = .returned (.tuple #[.pointer none, .int .i64 4]) ∧ LedAt w' L (s.take (4 * (m : Int))).1 else
       ∃ B g, e = .returned (.tuple #[.pointer (some ⟨B, 0, none⟩), .int .i64 0]) ∧ LedAt w' L (s.take (4 * (m : Int))).1 ∧ BufAt w' B ⟨L, g, zeros8 (4 * m), true⟩ ∧ w.heap.size ≤ B ∧ w.heap.size ≤ g) ∧ Chg (· = L) w w') fun e w' hh => by
        unfold MakePost at hh
        rw [if_neg (by omega), show (4 * (m : Int)).toNat = 4 * m by omega] at hh
        exact hh)
  have h1 : ¬ (m : Int) < 1 := by omega
  have h2 : ¬ 65536 < (m : Int) := by omega
  have hm16 : m ≤ 65536 := by omega
  clear h ha
  cases ht : (s.take (4 * (m : Int))).2 with
  | false =>
    have HMK := Hi (HMK.out.mono (R' := fun e w' => e = .returned (.tuple #[.pointer none, .int .i64 4]) ∧ LedAt w' L (s.take (4 * (m : Int))).1 ∧ Chg (· = L) w w') fun e w' hh => by rw [if_pos ht] at hh; exact ⟨hh.1.1, hh.1.2, hh.2⟩)
    have HT := Hi ht
    clear ht
    go_enter Tryz.func72, Tryz.ntmps72
    go_wp2_with (first
      | ((with_reducible refine skip_g rfl ?_ ?_); rfl; intro _)
      | ((go_at_call 79; (with_reducible refine (HMK.out).mono ?_); rintro e w3 ⟨rfl, hL, hC⟩); have H3 := Hi hL; have C3 := Hi hC; clear hL hC))
    go_ret2
    unfold PNewPost
    rw [if_neg (fun hh => hh HY.out), if_pos HT.out]
    exact ⟨⟨rfl, H3.out⟩, C3.out⟩
  | true =>
    have HMK := Hi (HMK.out.mono (R' := fun e w' => ∃ B g, e = .returned (.tuple #[.pointer (some ⟨B, 0, none⟩), .int .i64 0]) ∧ LedAt w' L (s.take (4 * (m : Int))).1 ∧ BufAt w' B ⟨L, g, zeros8 (4 * m), true⟩ ∧ w.heap.size ≤ B ∧ w.heap.size ≤ g ∧ Chg (· = L) w w') fun e w' hh => by
      rw [if_neg (by rw [ht]; decide)] at hh
      obtain ⟨⟨B, g, h1, h2, h3, h4, h5⟩, h6⟩ := hh
      exact ⟨B, g, h1, h2, h3, h4, h5, h6⟩)
    have HT := Hi ht
    clear ht
    go_enter Tryz.func72, Tryz.ntmps72
    go_wp2_with (first
      | ((with_reducible refine skip_g rfl ?_ ?_); rfl; intro _)
      | ((go_at_call 79; (with_reducible refine (HMK.out).mono ?_); rintro e w3 ⟨BB, gg, rfl, hL, hBf, hB1, hg1, hC⟩); have H3 := Hi hL; have C3 := Hi hC; have HBF := Hi hBf; have lB := hBf.lt; have lG := hBf.glt rfl; clear hL hC hBf))
    go_ret2
    have z3 := C3.out.size
    have hl3 := H3.out.lt
    have lG2 : gg < w3.heap.size := lG
    unfold PNewPost
    rw [if_neg (fun hh => hh HY.out), if_neg (by rw [HT.out]; decide), show ((m : Int)).toNat = m from rfl]
    have hC4 := (Chg.refl (fun _ => False) w3).alloc (.cells #[.pointer (some ⟨BB, 0, none⟩), .int .i64 0, .int .i64 m] 226)
    exact ⟨⟨w3.heap.size, BB, gg, rfl, H3.out.chg hC4 (fun h => h), ⟨obj1_new _ _ _, HBF.out.chg hC4 (fun h => h) (fun h => h), by simp [zeros8], rfl, Nat.zero_le _, hm16, by show w3.heap.size ≠ BB; omega, by show w3.heap.size ≠ gg; omega, by show w3.heap.size ≠ L; omega⟩, by omega, by omega, by omega⟩, C3.out.trans (hC4.mono (fun _ _ h => h.elim))⟩
theorem bytesI_strOf (L : List Int) (h : ∀ x ∈ L, 0 ≤ x ∧ x < 256) : bytesI (strOf L) = L := by
  unfold bytesI
  have h1 : (strOf L).data.toList = L.map (fun n => UInt8.ofNat n.toNat) := fold_data3 L ByteArray.empty
  rw [h1, List.map_map]
  have : ∀ x ∈ L, ((fun b : UInt8 => (b.toNat : Int)) ∘ fun n => UInt8.ofNat n.toNat) x = x := by
    intro x hx
    have hb := h x hx
    show (((UInt8.ofNat x.toNat).toNat : Nat) : Int) = x
    rw [UInt8.toNat_ofNat']
    omega
  rw [List.map_congr_left this, List.map_id']
def Pal.add (p : Pal) (c : List Int) : Pal := { p with b := { p.b with d := p.b.d.take (4 * p.n) ++ (c ++ p.b.d.drop (4 * p.n + 4)) }, n := p.n + 1 }
set_option maxRecDepth 100000 in
set_option maxHeartbeats 8000000 in
theorem padd_any (P : Nat) (p : Pal) (c0 c1 c2 c3 : Int) (w : World) (h : PalAt w P p) (hn : p.n < p.most) (hb : ∀ x ∈ [c0, c1, c2, c3], 0 ≤ x ∧ x < 256) : Calls Tryz.prog 146 #[.pointer (some ⟨P, 0, none⟩), .agg #[.int .u8 c0, .int .u8 c1, .int .u8 c2, .int .u8 c3]] w fun e w' =>
      e = .returned (.bool true) ∧ PalAt w' P (p.add [c0, c1, c2, c3]) ∧ Chg (fun k => k = P ∨ k = p.b.g) w w' := by
  have HP := Hi h
  have hC := (Chg.refl (fun _ => False) w).alloc (.cells #[.int .u8 c0, .int .u8 c1, .int .u8 c2, .int .u8 c3] 185)
  have h1 := h.chg hC (fun h => h) (fun h => h) (fun h => h)
  have CH := Hi hC
  have OP := Hi h1.obj
  have O3 := Hi (obj1_new w #[.int .u8 c0, .int .u8 c1, .int .u8 c2, .int .u8 c3] 185)
  obtain ⟨d, hd⟩ : ∃ d, w.heap.size = d := ⟨_, rfl⟩
  have HDe := Hi hd
  rw [hd] at O3
  have hPd := h.lt
  have hgd := h.buf.glt h.opn
  have hBd := h.buf.lt
  have hPB := h.nb
  have hPg := h.ng
  have hBg := h.buf.ne
  rw [hd] at hPd hgd hBd
  have hmo := h.mo
  have hlen := h.len
  have hsz4 : (strOf [c0, c1, c2, c3]).size = 4 := by rw [strOf_size3]; rfl
  have ht : p.b.there (4 * (p.n : Int)) ((strOf [c0, c1, c2, c3]).size) = true := by
    unfold Bf.there
    rw [hsz4, h.opn, decide_eq_true (show (0 : Int) ≤ 4 * (p.n : Int) by omega), decide_eq_true (show (0 : Int) ≤ ((4 : Nat) : Int) by decide), decide_eq_true (show 4 * (p.n : Int) ≤ (p.b.d.length : Int) by omega), decide_eq_true (show ((4 : Nat) : Int) ≤ (p.b.d.length : Int) - 4 * (p.n : Int) by omega)]
    rfl
  have HPUT := Hi (fun w0 (hB : BufAt w0 p.B p.b) => (fput_any p.B p.b (4 * (p.n : Int)) (strOf [c0, c1, c2, c3]) w0 hB (by omega) (by rw [hsz4]; decide) (by rw [hsz4]; decide)).mono (R' := fun e w' => e = .returned (.bool true) ∧ BufAt w' p.B (p.add [c0, c1, c2, c3]).b ∧ Chg (· = p.b.g) w0 w') fun e w' hh => by
    unfold Bf.put at hh
    rw [ht, if_pos rfl, hsz4, bytesI_strOf _ hb, show (4 * (p.n : Int)).toNat = 4 * p.n by omega] at hh
    exact hh)
  have HCV := Hi (fun (w0 : World) (pn : Nat) (ho : Obj1 w0 pn #[.int .u8 c0, .int .u8 c1, .int .u8 c2, .int .u8 c3] 5) => (show (convert 61 9 (.slice (some ⟨pn, 0, none⟩) 4 4)).run Tryz.prog w0 = .ok (.string (strOf [c0, c1, c2, c3])) w0 from
    part_string (P := Tryz.prog) (d := [c0, c1, c2, c3]) (T := 5) ho 0 4 4 (by show 0 + 4 ≤ 4; decide) 61 9 5 Tryz.underlying61 Tryz.underlying5 Tryz.underlying9))
  have FIN := Hi (fun w' (hO : Obj1 w' P #[.pointer (some ⟨p.B, 0, none⟩), .int .i64 ((p.n : Int) + 1), .int .i64 p.most] 226) (hB : BufAt w' p.B (p.add [c0, c1, c2, c3]).b) => (show PalAt w' P (p.add [c0, c1, c2, c3]) from
    ⟨by have e1 : (((p.add [c0, c1, c2, c3]).n : Nat) : Int) = (p.n : Int) + 1 := by show ((p.n + 1 : Nat) : Int) = _; omega
        rw [e1]; exact hO, hB, by show (p.b.d.take (4 * p.n) ++ ([c0, c1, c2, c3] ++ p.b.d.drop (4 * p.n + 4))).length = _; rw [List.length_append, List.length_append, List.length_take, List.length_drop, hlen]; show _ = 4 * p.most; simp; omega, HP.out.opn, by show p.n + 1 ≤ p.most; omega, HP.out.mo, HP.out.nb, HP.out.ng, HP.out.nl⟩))
  obtain ⟨B, hB⟩ : ∃ B, p.B = B := ⟨_, rfl⟩
  obtain ⟨g, hg⟩ : ∃ g, p.b.g = g := ⟨_, rfl⟩
  obtain ⟨n, hnn⟩ : ∃ n, p.n = n := ⟨_, rfl⟩
  obtain ⟨mo, hmm⟩ : ∃ m, p.most = m := ⟨_, rfl⟩
  have HBe := Hi hB
  have HGe := Hi hg
  have HBF0 := Hi h1.buf
  rw [hB] at OP HPUT FIN hBd hPB hBg HBF0
  rw [hg] at HPUT hgd hPg hBg ⊢
  rw [hnn] at OP HPUT FIN hn
  rw [hmm] at OP FIN hn hmo
  clear h h1 hC ht hsz4 hlen hB hg hnn hmm hb
  go_enter Tryz.func146, Tryz.ntmps146
  go_upto_region 1 with (fail)
  clear hd
  generalize World.alloc _ _ = wr at OP O3 CH HBF0 ⊢
  have ld := O3.out.lt
  have k1 := (OP.out.cell 1).trans (show _ = some (.int .i64 (n : Int)) from rfl)
  have k2 := (OP.out.cell 2).trans (show _ = some (.int .i64 (mo : Int)) from rfl)
  go_quiet (fail)
  go_upto_region 3 with (fail)
  have OP := Hi (OP.out.drewN nq)
  have O3 := Hi (O3.out.drewN nq)
  have CH := Hi (CH.out.drewN nq)
  have HBF0 := Hi (HBF0.out.chg ((Chg.refl (fun _ => False) wr).drewN nq) (fun h => h) (fun h => h))
  have ld2 : d < (wr.drewN nq).heap.size := O3.out.lt
  generalize wr.drewN nq = wv at OP O3 CH HBF0 ld2 ⊢
  clear k1 k2 ld
  obtain ⟨wr, rfl⟩ : ∃ z, z = wv := ⟨_, rfl⟩
  have lPz := OP.out.lt
  refine wp_region_noPanic ?_
  refine wp_region_held_drew (S := fun w' => Chg (fun k => k = g) wr w') (by kernel_rfl) (Chg.refl _ _).drew (fun hHeld => ?_)
  refine wpAnyH_take (i := 0) (v := .pointer (some ⟨P, 0, none⟩)) rfl (by kernel_rfl) (by kernel_rfl) (by kernel_rfl) (fun _ _ _ h => h) (Or.inl ⟨by rfl, fun w hS => by (go_simp) <;> first | rfl | assumption | (intro hh; exfalso; omega) | (exact (i64_wraps _ (by omega) (by omega)).trans (by omega)) | omega⟩) hHeld ?_
  simp only [Act.put, zq1, zq2, zq3, zq4, zq5, zq6]
  refine wpAnyH_take (i := 1) (v := .pointer (some ⟨P, 0, none⟩)) rfl (by kernel_rfl) (by kernel_rfl) (by kernel_rfl) (fun _ _ _ h => h) (Or.inl ⟨by rfl, fun w hS => by (go_simp) <;> first | rfl | assumption | (intro hh; exfalso; omega) | (exact (i64_wraps _ (by omega) (by omega)).trans (by omega)) | omega⟩) hHeld ?_
  simp only [Act.put, zq1, zq2, zq3, zq4, zq5, zq6]
  refine wpAnyH_take (i := 2) (v := .pointer (some ⟨P, 0, none⟩)) rfl (by kernel_rfl) (by kernel_rfl) (by kernel_rfl) (fun _ _ _ h => h) (Or.inl ⟨by rfl, fun w hS => by (go_simp) <;> first | rfl | assumption | (intro hh; exfalso; omega) | (exact (i64_wraps _ (by omega) (by omega)).trans (by omega)) | omega⟩) hHeld ?_
  simp only [Act.put, zq1, zq2, zq3, zq4, zq5, zq6]
  refine wpAnyH_take (i := 3) (v := .pointer (some ⟨B, 0, none⟩)) rfl (by kernel_rfl) (by kernel_rfl) (by kernel_rfl) (fun _ _ _ h => h) (Or.inl ⟨by rfl, fun w hS => by (have hc : w.cell? ⟨P, 0, none⟩ = some (.pointer (some ⟨B, 0, none⟩)) := (hS.cell (b := P) (o := 0) (by omega) (by show ¬ _ = g; omega)).trans ((OP.out.cell 0).trans rfl); go_simp)⟩) hHeld ?_
  simp only [Act.put, zq1, zq2, zq3, zq4, zq5, zq6]
  refine wpAnyH_take (i := 4) (v := .pointer (some ⟨P, 0, none⟩)) rfl (by kernel_rfl) (by kernel_rfl) (by kernel_rfl) (fun _ _ _ h => h) (Or.inl ⟨by rfl, fun w hS => by (go_simp) <;> first | rfl | assumption | (intro hh; exfalso; omega) | (exact (i64_wraps _ (by omega) (by omega)).trans (by omega)) | omega⟩) hHeld ?_
  simp only [Act.put, zq1, zq2, zq3, zq4, zq5, zq6]
  refine wpAnyH_take (i := 5) (v := .pointer (some ⟨P, 0, none⟩)) rfl (by kernel_rfl) (by kernel_rfl) (by kernel_rfl) (fun _ _ _ h => h) (Or.inl ⟨by rfl, fun w hS => by (go_simp) <;> first | rfl | assumption | (intro hh; exfalso; omega) | (exact (i64_wraps _ (by omega) (by omega)).trans (by omega)) | omega⟩) hHeld ?_
  simp only [Act.put, zq1, zq2, zq3, zq4, zq5, zq6]
  refine wpAnyH_take (i := 6) (v := .pointer (some ⟨P, 1, none⟩)) rfl (by kernel_rfl) (by kernel_rfl) (by kernel_rfl) (fun _ _ _ h => h) (Or.inl ⟨by rfl, fun w hS => by (go_simp) <;> first | rfl | assumption | (intro hh; exfalso; omega) | (exact (i64_wraps _ (by omega) (by omega)).trans (by omega)) | omega⟩) hHeld ?_
  simp only [Act.put, zq1, zq2, zq3, zq4, zq5, zq6]
  refine wpAnyH_take (i := 7) (v := .int .i64 (n : Int)) rfl (by kernel_rfl) (by kernel_rfl) (by kernel_rfl) (fun _ _ _ h => h) (Or.inl ⟨by rfl, fun w hS => by (have hc : w.cell? ⟨P, 1, none⟩ = some (.int .i64 (n : Int)) := (hS.cell (b := P) (o := 1) (by omega) (by show ¬ _ = g; omega)).trans ((OP.out.cell 1).trans rfl); go_simp)⟩) hHeld ?_
  simp only [Act.put, zq1, zq2, zq3, zq4, zq5, zq6]
  refine wpAnyH_take (i := 8) (v := .int .i64 (4 * (n : Int))) rfl (by kernel_rfl) (by kernel_rfl) (by kernel_rfl) (fun _ _ _ h => h) (Or.inl ⟨by rfl, fun w hS => by (go_simp) <;> first | rfl | assumption | (intro hh; exfalso; omega) | (exact (i64_wraps _ (by omega) (by omega)).trans (by omega)) | omega⟩) hHeld ?_
  simp only [Act.put, zq1, zq2, zq3, zq4, zq5, zq6]
  refine wpAnyH_take (i := 9) (v := .pointer (some ⟨d, 0, none⟩)) rfl (by kernel_rfl) (by kernel_rfl) (by kernel_rfl) (fun _ _ _ h => h) (Or.inl ⟨by rfl, fun w hS => by (go_simp) <;> first | rfl | assumption | (intro hh; exfalso; omega) | (exact (i64_wraps _ (by omega) (by omega)).trans (by omega)) | omega⟩) hHeld ?_
  simp only [Act.put, zq1, zq2, zq3, zq4, zq5, zq6]
  refine wpAnyH_take (i := 10) (v := .int .u8 c0) rfl (by kernel_rfl) (by kernel_rfl) (by kernel_rfl) (fun _ _ _ h => h) (Or.inl ⟨by rfl, fun w hS => by (have hc : w.cell? ⟨d, 0, none⟩ = some (.int .u8 c0) := (hS.cell (b := d) (o := 0) (by omega) (by show ¬ _ = g; omega)).trans ((O3.out.cell 0).trans rfl); go_simp)⟩) hHeld ?_
  simp only [Act.put, zq1, zq2, zq3, zq4, zq5, zq6]
  refine wpAnyH_take (i := 11) (v := .pointer (some ⟨d, 1, none⟩)) rfl (by kernel_rfl) (by kernel_rfl) (by kernel_rfl) (fun _ _ _ h => h) (Or.inl ⟨by rfl, fun w hS => by (go_simp) <;> first | rfl | assumption | (intro hh; exfalso; omega) | (exact (i64_wraps _ (by omega) (by omega)).trans (by omega)) | omega⟩) hHeld ?_
  simp only [Act.put, zq1, zq2, zq3, zq4, zq5, zq6]
  refine wpAnyH_take (i := 12) (v := .int .u8 c1) rfl (by kernel_rfl) (by kernel_rfl) (by kernel_rfl) (fun _ _ _ h => h) (Or.inl ⟨by rfl, fun w hS => by (have hc : w.cell? ⟨d, 1, none⟩ = some (.int .u8 c1) := (hS.cell (b := d) (o := 1) (by omega) (by show ¬ _ = g; omega)).trans ((O3.out.cell 1).trans rfl); go_simp)⟩) hHeld ?_
  simp only [Act.put, zq1, zq2, zq3, zq4, zq5, zq6]
  refine wpAnyH_take (i := 13) (v := .pointer (some ⟨d, 2, none⟩)) rfl (by kernel_rfl) (by kernel_rfl) (by kernel_rfl) (fun _ _ _ h => h) (Or.inl ⟨by rfl, fun w hS => by (go_simp) <;> first | rfl | assumption | (intro hh; exfalso; omega) | (exact (i64_wraps _ (by omega) (by omega)).trans (by omega)) | omega⟩) hHeld ?_
  simp only [Act.put, zq1, zq2, zq3, zq4, zq5, zq6]
  refine wpAnyH_take (i := 14) (v := .int .u8 c2) rfl (by kernel_rfl) (by kernel_rfl) (by kernel_rfl) (fun _ _ _ h => h) (Or.inl ⟨by rfl, fun w hS => by (have hc : w.cell? ⟨d, 2, none⟩ = some (.int .u8 c2) := (hS.cell (b := d) (o := 2) (by omega) (by show ¬ _ = g; omega)).trans ((O3.out.cell 2).trans rfl); go_simp)⟩) hHeld ?_
  simp only [Act.put, zq1, zq2, zq3, zq4, zq5, zq6]
  refine wpAnyH_take (i := 15) (v := .pointer (some ⟨d, 3, none⟩)) rfl (by kernel_rfl) (by kernel_rfl) (by kernel_rfl) (fun _ _ _ h => h) (Or.inl ⟨by rfl, fun w hS => by (go_simp) <;> first | rfl | assumption | (intro hh; exfalso; omega) | (exact (i64_wraps _ (by omega) (by omega)).trans (by omega)) | omega⟩) hHeld ?_
  simp only [Act.put, zq1, zq2, zq3, zq4, zq5, zq6]
  refine wpAnyH_take (i := 16) (v := .int .u8 c3) rfl (by kernel_rfl) (by kernel_rfl) (by kernel_rfl) (fun _ _ _ h => h) (Or.inl ⟨by rfl, fun w hS => by (have hc : w.cell? ⟨d, 3, none⟩ = some (.int .u8 c3) := (hS.cell (b := d) (o := 3) (by omega) (by show ¬ _ = g; omega)).trans ((O3.out.cell 3).trans rfl); go_simp)⟩) hHeld ?_
  simp only [Act.put, zq1, zq2, zq3, zq4, zq5, zq6]
  have hS := (Chg.refl (fun k => k = g) wr).drew
  have hF := (Chg.refl (fun _ => False) wr).drew
  generalize World.drew _ = wk at hS hF ⊢
  refine wpAnyH_ready (rs := [17]) (by kernel_rfl) (by simp) ?_
  refine AllReadyH.cons (o := _) rfl (fun K' hK => ?_) AllReadyH.nil
  go_simp
  have ON := Hi (obj1_new wk #[.int .u8 c0, .int .u8 c1, .int .u8 c2, .int .u8 c3] 5)
  have hS := hS.alloc (.cells #[.int .u8 c0, .int .u8 c1, .int .u8 c2, .int .u8 c3] 5)
  have hF := hF.alloc (.cells #[.int .u8 c0, .int .u8 c1, .int .u8 c2, .int .u8 c3] 5)
  generalize wk.heap.size = pn at ON ⊢
  generalize World.alloc wk _ = wk2 at hS hF ON ⊢
  refine hK _ _ hS (fun hH1 => ?_)
  clear hK K'
  try simp only [Act.put, zq1, zq2, zq3, zq4, zq5, zq6]
  refine wpAnyH_ready (rs := [18]) (by kernel_rfl) (by simp) ?_
  refine AllReadyH.cons (o := _) rfl (fun K' hK => ?_) AllReadyH.nil
  have hcv := HCV.out wk2 pn ON.out
  go_simp
  refine hK _ _ hS (fun hH2 => ?_)
  clear hK K' hcv
  try simp only [Act.put, zq1, zq2, zq3, zq4, zq5, zq6]
  refine wpAnyH_ready (rs := [19]) (by kernel_rfl) (by simp) ?_
  refine AllReadyH.cons (o := _) rfl (fun K' hK => ?_) AllReadyH.nil
  go_simp
  have BF := Hi (HBF0.out.chg hF (fun h => h) (fun h => h))
  refine (HPUT.out _ BF.out).mono ?_
  rintro e5 w5 ⟨rfl, hB5, hC5⟩
  have BF := Hi hB5
  have hS := hS.trans hC5
  go_wp2_with fail
  refine hK _ _ hS (fun hH3 => ?_)
  clear hK K' hB5 hC5
  refine wpAnyH_done (by kernel_rfl) ?_ _
  refine NoPanic.normal ?_
  have OP := Hi (hS.obj OP.out hPg)
  have CH := Hi ((CH.out.mono (S' := fun k => k = P ∨ k = g) (fun _ _ h => h.elim)).trans (hS.mono (fun k _ hk => Or.inr hk)))
  clear hS hF hH1 hH2 hH3
  have k1 := (OP.out.cell 1).trans (show _ = some (.int .i64 (n : Int)) from rfl)
  have f1 := OP.out.frozen 1
  go_upto_region 5 with (fail)
  have OP := Hi ((OP.out.set 1 (.int .i64 ((n : Int) + 1))).cells (show _ = #[.pointer (some ⟨B, 0, none⟩), .int .i64 ((n : Int) + 1), .int .i64 mo] from rfl))
  have BF := Hi (BF.out.chg ((Chg.refl (fun k => k = P) w5).set ⟨P, 1, none⟩ (.int .i64 ((n : Int) + 1)) (Or.inl rfl)) (show ¬ B = P from fun e => hPB e.symm) (show ¬ p.b.g = P by have := HGe.out; omega))
  have CH := Hi (CH.out.set ⟨P, 1, none⟩ (.int .i64 ((n : Int) + 1)) (Or.inl (Or.inl rfl)))
  generalize World.setCell _ _ _ = w6 at OP BF CH ⊢
  clear k1 f1
  go_wp2_with fail
  go_ret
  have e1 : p.B = B := HBe.out
  subst e1
  exact ⟨rfl, FIN.out _ OP.out BF.out, CH.out⟩
end Go.Proofs.YtlfbaggcfaenlaaGreat

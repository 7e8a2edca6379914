/- dibhead.Bytes, walked. -/
import Derived.Test.YtlhcjnjajkfahaaK28
import Derived.Test.YtlhcjnjajkfahaaK29
namespace Go.Proofs.Ytlhcjnjajkfahaa
open Go.RowKit
set_option linter.unusedVariables false
set_option linter.unusedSimpArgs false
def outA (n : Nat) (W h dp mt co : Int) : List Int := setB (setB ((setB (setB (setB (setB (List.replicate n 0) 0 40 4) 4 W 4) 8 h 4) 14 dp 4).set 12 1) 16 mt 4) 32 co 4
def outM (L : List Int) (r g b : Int) : List Int := setB (setB (setB L 40 r 4) 44 g 4) 48 b 4
def topH (top : Bool) (H : Int) : Int := if top = true then wrap64 (-H) else H
def co20 (dp co : Int) : Int := if 1 ≤ dp ∧ dp ≤ 8 ∧ co = mostI dp then 0 else co
/-- A head's bytes, laid. -/
def outS (W H : Int) (top : Bool) (dp mt co k0 k1 k2 k3 k4 k5 : Int) : ByteArray :=
  if mt = 3 then strOf (outM (outA 52 W (topH top H) dp mt (co20 dp co)) (wordI k0 k1) (wordI k2 k3) (wordI k4 k5)) else strOf (outA 40 W (topH top H) dp mt (co20 dp co))
def GoodAgain (S : ByteArray) (H : Hd) (m : List Int) (r g b q en : Int) : Prop := H.fine ∧ rRead20 S 0 = rOk H r g b q 0 en ∧ mWords m r g b q ∧ H.sz = lowK S 0 4 ∧ en = (0 : Int) + (if H.sz = 40 ∧ H.mt = 3 then 52 else H.sz) ∧ (∃ n : Nat, lowK S 0 4 = n ∧ H = hdOf (S.extract 0 (0 + n))) ∧ m = (if H.mt = 3 then mk8 (mkR S 0 H.sz) H.dp else comM H.dp)
def BytesPost (w : World) (S : ByteArray) (HL : List Value) (e : Ending) (w' : World) : Prop :=
  ((∃ H m r g b q en, GoodAgain S H m r g b q en ∧ H.at m 0 = HL ∧ e = .returned (.tuple #[.string S, .int .i64 0])) ∨
   (((∃ k a : Int, k ≠ 0 ∧ rRead20 S 0 = rBad20 k a) ∨ (∃ H m r g b q en, GoodAgain S H m r g b q en ∧ H.at m 0 ≠ HL)) ∧ e = .returned (.tuple #[.string ByteArray.empty, .int .i64 6]))) ∧ Below w.heap.size w w'
theorem again2 (S : ByteArray) (w : World) (hs : S.size ≤ 100000) : Calls Try.prog 82 #[.string S] w fun e w' => ((∃ k a : Int, k ≠ 0 ∧ rRead20 S 0 = rBad20 k a ∧ e = .returned (.tuple #[.agg (List.toArray [.int .i64 0, .int .i64 0, .int .i64 0, .bool false, .int .i64 0, .int .i64 0, .int .i64 0, .int .i64 0, .int .i64 0, .int .i64 0, .int .i64 0, .int .i64 0, .int .i64 0, .int .i64 0, .int .i64 0, .int .i64 0]), .bool false])) ∨
   (∃ (H : Hd) (m : List Int) (r g b q en : Int), GoodAgain S H m r g b q en ∧ e = .returned (.tuple #[.agg (H.at m 0).toArray, .bool true]))) ∧ Below w.heap.size w w' := by
  refine (again_any S w hs).mono ?_
  rintro e w' ⟨h | ⟨H, m, r, g, b, q, en, a1, a2, a3, a4⟩, hb⟩
  · exact ⟨Or.inl h, hb⟩
  · exact ⟨Or.inr ⟨H, m, r, g, b, q, en, ⟨a1, a2, a4⟩, a3⟩, hb⟩
theorem bput_c (P v : Int) (p n OB g : Nat) (L : List Int) (w : World) (hP : P = p) (hL : L.length = n) (hp : p + 4 ≤ n) (hn : n ≤ 100) (hne : OB ≠ g) (h1 : Obj1 w OB #[.slice (some ⟨g, 0, none⟩) n n] 72) (h2 : Obj1 w g ((L.map (.int .u8)).toArray) 5) :
    Calls Try.prog 80 #[.int .i64 P, .int .i64 v, .pointer (some ⟨OB, 0, none⟩)] w fun e w' => e = .returned (.tuple #[]) ∧ Obj1 w' g (((setB L p v 4).map (.int .u8)).toArray) 5 ∧ Chg (fun k => k = g) w w' := by
  subst hP; exact bput_any v p n OB g L w hL hp hn hne h1 h2
theorem repl_len (n : Nat) : (List.replicate n (0 : Int)).length = n := List.length_replicate
theorem mkB40 (w : World) : (Instr.makeSlice 72 (.int .i64 40) (.int .i64 40)).run Try.prog w = .ok (.slice (some ⟨w.heap.size, 0, none⟩) 40 40) (w.alloc (.cells (((List.replicate 40 (0 : Int)).map (.int .u8)).toArray) 5)) := by kernel_rfl
theorem mkB52 (w : World) : (Instr.makeSlice 72 (.int .i64 52) (.int .i64 52)).run Try.prog w = .ok (.slice (some ⟨w.heap.size, 0, none⟩) 52 52) (w.alloc (.cells (((List.replicate 52 (0 : Int)).map (.int .u8)).toArray) 5)) := by kernel_rfl
set_option maxRecDepth 100000 in
set_option maxHeartbeats 16000000 in
theorem hbytes_40 (sz W H : Int) (top : Bool) (dp mt co k0 k1 k2 k3 k4 k5 k6 k7 fr : Int) (w : World) (h3 : (mt == 3) = false) : Calls Try.prog 39 #[.agg (List.toArray [.int .i64 sz, .int .i64 W, .int .i64 H, .bool top, .int .i64 dp, .int .i64 mt, .int .i64 co, .int .i64 k0, .int .i64 k1, .int .i64 k2, .int .i64 k3, .int .i64 k4, .int .i64 k5, .int .i64 k6, .int .i64 k7, .int .i64 fr])] w (BytesPost w (outS W H top dp mt co k0 k1 k2 k3 k4 k5) [.int .i64 sz, .int .i64 W, .int .i64 H, .bool top, .int .i64 dp, .int .i64 mt, .int .i64 co, .int .i64 k0, .int .i64 k1, .int .i64 k2, .int .i64 k3, .int .i64 k4, .int .i64 k5, .int .i64 k6, .int .i64 k7, .int .i64 0]) := by
  have HM := @mkB40
  obtain ⟨S, hS⟩ : ∃ S, outS W H top dp mt co k0 k1 k2 k3 k4 k5 = S := ⟨_, rfl⟩
  rw [hS]
  have HS := Lib.hid hS
  clear hS
  have O1 := Lib.hid (obj1_new w (List.toArray [.int .i64 sz, .int .i64 W, .int .i64 H, .bool top, .int .i64 dp, .int .i64 mt, .int .i64 co, .int .i64 k0, .int .i64 k1, .int .i64 k2, .int .i64 k3, .int .i64 k4, .int .i64 k5, .int .i64 k6, .int .i64 k7, .int .i64 fr]) 61)
  have HB := Lib.hid ((Below.refl w.heap.size w).alloc (Nat.le_refl _) (.cells (List.toArray [.int .i64 sz, .int .i64 W, .int .i64 H, .bool top, .int .i64 dp, .int .i64 mt, .int .i64 co, .int .i64 k0, .int .i64 k1, .int .i64 k2, .int .i64 k3, .int .i64 k4, .int .i64 k5, .int .i64 k6, .int .i64 k7, .int .i64 fr]) 61))
  obtain ⟨h, hh⟩ : ∃ x, topH top H = x := ⟨_, rfl⟩
  obtain ⟨c2, hc2⟩ : ∃ x, co20 dp co = x := ⟨_, rfl⟩
  have HH := Lib.hid hh
  have HC2 := Lib.hid hc2
  have HC3 := Lib.hid hc2
  go_enter Try.func39, Try.ntmps39
  go_upto_region 1 with (fail)
  generalize World.alloc _ _ = w1 at O1 HB ⊢
  obtain ⟨d, hd⟩ : ∃ d, w.heap.size = d := ⟨_, rfl⟩
  have HDD := Lib.hid hd
  rw [hd] at O1 ⊢
  clear hd
  have l1 := O1.out.lt
  have c5 : w1.cell? ⟨d, 5, none⟩ = some (.int .i64 mt) := (O1.out.cell 5).trans rfl
  go_upto_region 4 with (fail)
  have LN := repl_len 40
  obtain ⟨L0, hL0⟩ : ∃ L, List.replicate 40 (0 : Int) = L := ⟨_, rfl⟩
  rw [hL0] at LN
  have HL0 := Lib.hid hL0
  have OG := Lib.hid ((obj1_new w1 ((L0.map (.int .u8)).toArray) 5).alloc (.cells #[.slice (some ⟨w1.heap.size, 0, none⟩) 40 40] 72))
  have OB1 := Lib.hid (obj1_new (w1.alloc (.cells ((L0.map (.int .u8)).toArray) 5)) #[.slice (some ⟨w1.heap.size, 0, none⟩) 40 40] 72)
  rw [show (w1.alloc (.cells ((L0.map (.int .u8)).toArray) 5)).heap.size = w1.heap.size + 1 by simp] at OB1
  have O1 := Lib.hid ((O1.out.alloc (.cells ((L0.map (.int .u8)).toArray) 5)).alloc (.cells #[.slice (some ⟨w1.heap.size, 0, none⟩) 40 40] 72))
  have HB := Lib.hid ((HB.out.alloc HB.out.size (.cells ((L0.map (.int .u8)).toArray) 5)).alloc (Nat.le_trans HB.out.size (by simp)) (.cells #[.slice (some ⟨w1.heap.size, 0, none⟩) 40 40] 72))
  rw [hL0] at HM
  clear hL0
  go_upto_region 5 with (fail)
  generalize World.alloc _ _ = w2 at O1 OG OB1 HB ⊢
  obtain ⟨g, hg⟩ : ∃ g, w1.heap.size = g := ⟨_, rfl⟩
  rw [hg] at OG OB1 l1 ⊢
  have hgd : d ≠ g := by omega
  have hgd1 : d ≠ g + 1 := by omega
  have hgB : g + 1 ≠ g := by omega
  have hwd : w.heap.size ≤ g := by have := HDD.out; omega
  clear HM hg c5
  go_upto_region 6 with (fail)
  refine wp_region_noPanic ?_
  refine wp_region_held_drew (S := fun w' => w'.rangeAt d 0 [.int .i64 sz, .int .i64 W, .int .i64 H, .bool top, .int .i64 dp, .int .i64 mt, .int .i64 co, .int .i64 k0, .int .i64 k1, .int .i64 k2, .int .i64 k3, .int .i64 k4, .int .i64 k5, .int .i64 k6, .int .i64 k7, .int .i64 fr]) (by kernel_rfl) O1.out.range0 (fun hHeld => ?_)
  refine wpAnyH_take (i := 0) (v := .pointer (some ⟨d, 2, none⟩)) rfl (by kernel_rfl) (by kernel_rfl) (by kernel_rfl) (fun _ _ _ h => h) (Or.inl ⟨by rfl, fun w hS => by go_simp⟩) hHeld ?_
  simp only [Act.put, List.setIfInBounds_toArray, List.set_cons_zero, List.set_cons_succ, List.getElem_toArray, List.getElem_cons_zero, List.getElem_cons_succ]
  refine wpAnyH_take (i := 1) (v := .int .i64 H) rfl (by kernel_rfl) (by kernel_rfl) (by kernel_rfl) (fun _ _ _ h => h) (Or.inl ⟨by rfl, fun w hS => by (have hc : w.cell? ⟨d, 2, none⟩ = some (.int .i64 H) := hS 2 _ rfl); go_simp⟩) hHeld ?_
  simp only [Act.put, List.setIfInBounds_toArray, List.set_cons_zero, List.set_cons_succ, List.getElem_toArray, List.getElem_cons_zero, List.getElem_cons_succ]
  refine wpAnyH_take (i := 2) (v := .pointer (some ⟨d, 6, none⟩)) rfl (by kernel_rfl) (by kernel_rfl) (by kernel_rfl) (fun _ _ _ h => h) (Or.inl ⟨by rfl, fun w hS => by go_simp⟩) hHeld ?_
  simp only [Act.put, List.setIfInBounds_toArray, List.set_cons_zero, List.set_cons_succ, List.getElem_toArray, List.getElem_cons_zero, List.getElem_cons_succ]
  refine wpAnyH_take (i := 3) (v := .int .i64 co) rfl (by kernel_rfl) (by kernel_rfl) (by kernel_rfl) (fun _ _ _ h => h) (Or.inl ⟨by rfl, fun w hS => by (have hc : w.cell? ⟨d, 6, none⟩ = some (.int .i64 co) := hS 6 _ rfl); go_simp⟩) hHeld ?_
  simp only [Act.put, List.setIfInBounds_toArray, List.set_cons_zero, List.set_cons_succ, List.getElem_toArray, List.getElem_cons_zero, List.getElem_cons_succ]
  refine wpAnyH_take (i := 4) (v := .int .i64 H) rfl (by kernel_rfl) (by kernel_rfl) (by kernel_rfl) (fun _ _ _ h => h) (Or.inl ⟨by rfl, fun w hS => by go_simp⟩) hHeld ?_
  simp only [Act.put, List.setIfInBounds_toArray, List.set_cons_zero, List.set_cons_succ, List.getElem_toArray, List.getElem_cons_zero, List.getElem_cons_succ]
  refine wpAnyH_take (i := 5) (v := .int .i64 co) rfl (by kernel_rfl) (by kernel_rfl) (by kernel_rfl) (fun _ _ _ h => h) (Or.inl ⟨by rfl, fun w hS => by go_simp⟩) hHeld ?_
  simp only [Act.put, List.setIfInBounds_toArray, List.set_cons_zero, List.set_cons_succ, List.getElem_toArray, List.getElem_cons_zero, List.getElem_cons_succ]
  have O1 := Lib.hid (O1.out.drew)
  have OG := Lib.hid (OG.out.drew)
  have OB1 := Lib.hid (OB1.out.drew)
  have HB := Lib.hid HB.out.drew
  generalize World.drew _ = wk at O1 OG OB1 HB ⊢
  refine wpAnyH_done (by kernel_rfl) ?_ _
  refine NoPanic.normal ?_
  have c3 : wk.cell? ⟨d, 3, none⟩ = some (.bool top) := (O1.out.cell 3).trans rfl
  go_upto_if 24 with (fail)
  go_cut [7] from 25 to 26 (fun c wx => c = .int .i64 h ∧ wx = wk)
  case first =>
    cases top
    · have e : h = H := HH.out.symm
      subst e
      go_wp2_with fail
      go_meet
      exact ⟨rfl, rfl⟩
    · have e : h = wrap64 (-H) := HH.out.symm
      subst e
      go_wp2_with fail
      go_meet
      exact ⟨rfl, rfl⟩
  case rest =>
  obtain ⟨rfl, rfl⟩ := hcut
  obtain ⟨wk, rfl⟩ : ∃ x, x = wc := ⟨_, rfl⟩
  clear c3
  have c4 : wk.cell? ⟨d, 4, none⟩ = some (.int .i64 dp) := (O1.out.cell 4).trans rfl
  obtain ⟨M, hM⟩ : ∃ M, mostI dp = M := ⟨_, rfl⟩
  obtain ⟨d1, hd1⟩ : ∃ x, decide (dp ≥ 1) = x := ⟨_, rfl⟩
  obtain ⟨d8, hd8⟩ : ∃ x, decide (dp ≤ 8) = x := ⟨_, rfl⟩
  obtain ⟨ce, hce⟩ : ∃ x, (co == M) = x := ⟨_, rfl⟩
  obtain ⟨z, hz⟩ : ∃ x, (d1 && (d8 && ce)) = x := ⟨_, rfl⟩
  have HZ := Lib.hid hz
  have EC2 := Lib.hid (show c2 = if z = true then 0 else co by
    rw [← HC2.out]; unfold co20; rw [hM]
    by_cases h1 : 1 ≤ dp
    · by_cases h8 : dp ≤ 8
      · by_cases hc : co = M
        · rw [if_pos ⟨h1, h8, hc⟩, if_pos (by rw [← hz, ← hd1, ← hd8, ← hce, hc]; simp [h1, h8])]
        · rw [if_neg (fun h => hc h.2.2), if_neg (by rw [← hz, ← hce]; simp [hc])]
      · rw [if_neg (fun h => h8 h.2.1), if_neg (by rw [← hz, ← hd8]; simp [h8])]
    · rw [if_neg (fun h => h1 h.1), if_neg (by rw [← hz, ← hd1]; simp; omega)])
  have HMO := Lib.hid (fun w0 (h0 : d1 = true) => hM ▸ most_any dp w0 (by rw [h0] at hd1; have := of_decide_eq_true hd1; omega))
  clear hz hM hc2 HC2 hh
  go_upto_region 9 with (fail)
  go_cut [41] from 27 to 41 (fun c wx => c = .bool z ∧ wx = wk)
  case first =>
    cases d1
    · go_wp2_with ((with_reducible refine skip_g rfl ?_ ?_); rfl; intro _)
      go_meet
      exact ⟨by rw [← HZ.out] <;> rfl, rfl⟩
    · cases d8
      · go_wp2_with ((with_reducible refine skip_g rfl ?_ ?_); rfl; intro _)
        go_meet
        exact ⟨by rw [← HZ.out] <;> rfl, rfl⟩
      · cases ce
        · go_wp2_with (first | ((with_reducible refine skip_g rfl ?_ ?_); rfl; intro _) | ((go_at_call 81; (with_reducible refine (HMO.out _ rfl).mono ?_); rintro e wl ⟨rfl, hq⟩); have hq := hq.symm; subst hq))
          go_meet
          exact ⟨by rw [← HZ.out] <;> rfl, rfl⟩
        · go_wp2_with (first | ((with_reducible refine skip_g rfl ?_ ?_); rfl; intro _) | ((go_at_call 81; (with_reducible refine (HMO.out _ rfl).mono ?_); rintro e wl ⟨rfl, hq⟩); have hq := hq.symm; subst hq))
          go_meet
          exact ⟨by rw [← HZ.out] <;> rfl, rfl⟩
  case rest =>
  obtain ⟨rfl, rfl⟩ := hcut
  obtain ⟨wk, rfl⟩ : ∃ x, x = wc := ⟨_, rfl⟩
  clear HMO hd1 hd8 hce HZ
  go_upto_if 41 with (fail)
  go_cut [8] from 42 to 42 (fun c wx => c = .int .i64 c2 ∧ wx = wk)
  case first =>
    cases z
    · have e : c2 = co := EC2.out
      subst e
      go_wp2_with fail
      go_meet
      exact ⟨rfl, rfl⟩
    · have e : c2 = 0 := EC2.out
      subst e
      go_wp2_with fail
      go_meet
      exact ⟨rfl, rfl⟩
  case rest =>
  obtain ⟨rfl, rfl⟩ := hcut
  obtain ⟨wk, rfl⟩ : ∃ x, x = wc := ⟨_, rfl⟩
  clear c4 EC2
  go_upto_region 12 with ((go_at_call 80; (with_reducible refine (bput_c 0 40 0 40 (g + 1) g L0 _ rfl LN (by omega) (by omega) hgB OB1.out OG.out).mono ?_); rintro e wp1 ⟨rfl, hG, hC⟩); have O1 := Lib.hid (hC.obj O1.out hgd); have OB1 := Lib.hid (hC.obj OB1.out hgB); have OG := Lib.hid hG; have HB := Lib.hid (bchg HB.out hC HB.out.size (fun k hk => by rw [hk]; exact hwd)); clear hG hC)
  obtain ⟨L1, hL1⟩ : ∃ L, setB L0 0 40 4 = L := ⟨_, rfl⟩
  have LN1 : L1.length = 40 := by rw [← hL1, setB_len, LN]
  rw [hL1] at OG
  have HL1 := Lib.hid hL1
  clear hL1
  have c1 : wp1.cell? ⟨d, 1, none⟩ = some (.int .i64 W) := (O1.out.cell 1).trans rfl
  go_upto_region 13 with ((go_at_call 80; (with_reducible refine (bput_c 4 W 4 40 (g + 1) g L1 _ rfl LN1 (by omega) (by omega) hgB OB1.out OG.out).mono ?_); rintro e wp2 ⟨rfl, hG, hC⟩); have O1 := Lib.hid (hC.obj O1.out hgd); have OB1 := Lib.hid (hC.obj OB1.out hgB); have OG := Lib.hid hG; have HB := Lib.hid (bchg HB.out hC HB.out.size (fun k hk => by rw [hk]; exact hwd)); clear hG hC)
  obtain ⟨L2, hL2⟩ : ∃ L, setB L1 4 W 4 = L := ⟨_, rfl⟩
  have LN2 : L2.length = 40 := by rw [← hL2, setB_len, LN1]
  rw [hL2] at OG
  have HL2 := Lib.hid hL2
  clear hL2
  clear c1
  go_upto_region 14 with ((go_at_call 80; (with_reducible refine (bput_c 8 h 8 40 (g + 1) g L2 _ rfl LN2 (by omega) (by omega) hgB OB1.out OG.out).mono ?_); rintro e wp3 ⟨rfl, hG, hC⟩); have O1 := Lib.hid (hC.obj O1.out hgd); have OB1 := Lib.hid (hC.obj OB1.out hgB); have OG := Lib.hid hG; have HB := Lib.hid (bchg HB.out hC HB.out.size (fun k hk => by rw [hk]; exact hwd)); clear hG hC)
  obtain ⟨L3, hL3⟩ : ∃ L, setB L2 8 h 4 = L := ⟨_, rfl⟩
  have LN3 : L3.length = 40 := by rw [← hL3, setB_len, LN2]
  rw [hL3] at OG
  have HL3 := Lib.hid hL3
  clear hL3
  have c4 : wp3.cell? ⟨d, 4, none⟩ = some (.int .i64 dp) := (O1.out.cell 4).trans rfl
  go_upto_region 15 with ((go_at_call 80; (with_reducible refine (bput_c 14 dp 14 40 (g + 1) g L3 _ rfl LN3 (by omega) (by omega) hgB OB1.out OG.out).mono ?_); rintro e wp4 ⟨rfl, hG, hC⟩); have O1 := Lib.hid (hC.obj O1.out hgd); have OB1 := Lib.hid (hC.obj OB1.out hgB); have OG := Lib.hid hG; have HB := Lib.hid (bchg HB.out hC HB.out.size (fun k hk => by rw [hk]; exact hwd)); clear hG hC)
  obtain ⟨L4, hL4⟩ : ∃ L, setB L3 14 dp 4 = L := ⟨_, rfl⟩
  have LN4 : L4.length = 40 := by rw [← hL4, setB_len, LN3]
  rw [hL4] at OG
  have HL4 := Lib.hid hL4
  clear hL4
  clear c4
  have c0 : wp4.cell? ⟨g + 1, 0, none⟩ = some (.slice (some ⟨g, 0, none⟩) 40 40) := (OB1.out.cell 0).trans rfl
  have cB : wp4.cell? ⟨g, 12, none⟩ = some (.int .u8 (L4.getD 12 0)) := (OG.out.cell 12).trans (by rw [List.getElem?_toArray, List.getElem?_map, List.getElem?_eq_getElem (by omega), List.getD_eq_getElem?_getD, List.getElem?_eq_getElem (by omega)]; rfl)
  have fB : wp4.frozen? ⟨g, 12, none⟩ = false := OG.out.frozen 12
  go_upto_region 16 with (fail)
  have OG := Lib.hid (OG.out.setL 12 1)
  have O1 := Lib.hid (O1.out.set_other ⟨g, 12, none⟩ (.int .u8 1) (by simpa using hgd))
  have OB1 := Lib.hid (OB1.out.set_other ⟨g, 12, none⟩ (.int .u8 1) (by simp))
  have HB := Lib.hid (HB.out.setCell (p := ⟨g, 12, none⟩) hwd (.int .u8 1))
  clear c0 cB fB
  generalize World.setCell _ _ _ = wq at O1 OG OB1 HB ⊢
  obtain ⟨L5, hL5⟩ : ∃ L, L4.set 12 1 = L := ⟨_, rfl⟩
  have LN5 : L5.length = 40 := by rw [← hL5, List.length_set, LN4]
  rw [hL5] at OG
  have HL5 := Lib.hid hL5
  clear hL5
  have c5 : wq.cell? ⟨d, 5, none⟩ = some (.int .i64 mt) := (O1.out.cell 5).trans rfl
  go_upto_region 17 with ((go_at_call 80; (with_reducible refine (bput_c 16 mt 16 40 (g + 1) g L5 _ rfl LN5 (by omega) (by omega) hgB OB1.out OG.out).mono ?_); rintro e wp6 ⟨rfl, hG, hC⟩); have O1 := Lib.hid (hC.obj O1.out hgd); have OB1 := Lib.hid (hC.obj OB1.out hgB); have OG := Lib.hid hG; have HB := Lib.hid (bchg HB.out hC HB.out.size (fun k hk => by rw [hk]; exact hwd)); clear hG hC)
  obtain ⟨L6, hL6⟩ : ∃ L, setB L5 16 mt 4 = L := ⟨_, rfl⟩
  have LN6 : L6.length = 40 := by rw [← hL6, setB_len, LN5]
  rw [hL6] at OG
  have HL6 := Lib.hid hL6
  clear hL6
  clear c5
  go_upto_region 22 with ((go_at_call 80; (with_reducible refine (bput_c 32 c2 32 40 (g + 1) g L6 _ rfl LN6 (by omega) (by omega) hgB OB1.out OG.out).mono ?_); rintro e wp7 ⟨rfl, hG, hC⟩); have O1 := Lib.hid (hC.obj O1.out hgd); have OB1 := Lib.hid (hC.obj OB1.out hgB); have OG := Lib.hid hG; have HB := Lib.hid (bchg HB.out hC HB.out.size (fun k hk => by rw [hk]; exact hwd)); clear hG hC)
  obtain ⟨L7, hL7⟩ : ∃ L, setB L6 32 c2 4 = L := ⟨_, rfl⟩
  have LN7 : L7.length = 40 := by rw [← hL7, setB_len, LN6]
  rw [hL7] at OG
  have HL7 := Lib.hid hL7
  clear hL7
  have cB : wp7.cell? ⟨d, 15, none⟩ = some (.int .i64 fr) := (O1.out.cell 15).trans rfl
  have fB : wp7.frozen? ⟨d, 15, none⟩ = false := O1.out.frozen 15
  go_upto_region 23 with (fail)
  have O1 := Lib.hid ((O1.out.set 15 (.int .i64 0)).cells (show _ = List.toArray [.int .i64 sz, .int .i64 W, .int .i64 H, .bool top, .int .i64 dp, .int .i64 mt, .int .i64 co, .int .i64 k0, .int .i64 k1, .int .i64 k2, .int .i64 k3, .int .i64 k4, .int .i64 k5, .int .i64 k6, .int .i64 k7, .int .i64 0] from rfl))
  have OG := Lib.hid (OG.out.set_other ⟨d, 15, none⟩ (.int .i64 0) (by simpa using Ne.symm hgd))
  have OB1 := Lib.hid (OB1.out.set_other ⟨d, 15, none⟩ (.int .i64 0) (by simpa using Ne.symm hgd1))
  have HB := Lib.hid (HB.out.setCell (p := ⟨d, 15, none⟩) (by have := HDD.out; simp; omega) (.int .i64 0))
  clear cB fB
  generalize World.setCell _ _ _ = wr at O1 OG OB1 HB ⊢
  have ES : strOf L7 = S := by
    rw [← HS.out]; unfold outS outA outM; rw [if_neg (by simpa using h3), HH.out, HC3.out, HL0.out, HL1.out, HL2.out, HL3.out, HL4.out, HL5.out, HL6.out, HL7.out]
  have hcv := conv_str wr g 40 40 L7 LN7 (Obj1.range0 (cs := (L7.map (Value.int .u8))) OG.out) _ _ _ Try.underlying72 Try.underlying5 Try.underlying9
  rw [ES] at hcv
  have ES := Lib.hid ES
  have hSz : S.size ≤ 100000 := by rw [← ES.out, strOf_size3, LN7]; omega
  have c0 : wr.cell? ⟨g + 1, 0, none⟩ = some (.slice (some ⟨g, 0, none⟩) 40 40) := (OB1.out.cell 0).trans rfl
  clear HL0 HL1 HL2 HL3 HL4 HL5 HL6 HL7 HS HH HC3
  go_wp2_with fail
  refine (again2 S _ hSz).mono ?_
  rintro e wa ⟨hc, hb⟩
  have O1 := Lib.hid (O1.out.below hb O1.out.lt)
  have OG := Lib.hid (OG.out.below hb OG.out.lt)
  have OB1 := Lib.hid (OB1.out.below hb OB1.out.lt)
  have HB := Lib.hid (bthen hb HB.out HB.out.size)
  clear hb hcv c0 hSz
  have hz1 : d ≠ wa.heap.size := by have := O1.out.lt; omega
  have hz2 : g ≠ wa.heap.size := by have := OG.out.lt; omega
  have hz3 : g + 1 ≠ wa.heap.size := by have := OB1.out.lt; omega
  have hz4 : w.heap.size ≤ wa.heap.size := HB.out.size
  have O9 := Lib.hid (obj1_new wa #[.int .i64 0, .int .i64 0, .int .i64 0, .bool false, .int .i64 0, .int .i64 0, .int .i64 0, .int .i64 0, .int .i64 0, .int .i64 0, .int .i64 0, .int .i64 0, .int .i64 0, .int .i64 0, .int .i64 0, .int .i64 0] 61)
  have O1 := Lib.hid (O1.out.alloc (.cells #[.int .i64 0, .int .i64 0, .int .i64 0, .bool false, .int .i64 0, .int .i64 0, .int .i64 0, .int .i64 0, .int .i64 0, .int .i64 0, .int .i64 0, .int .i64 0, .int .i64 0, .int .i64 0, .int .i64 0, .int .i64 0] 61))
  have OG := Lib.hid (OG.out.alloc (.cells #[.int .i64 0, .int .i64 0, .int .i64 0, .bool false, .int .i64 0, .int .i64 0, .int .i64 0, .int .i64 0, .int .i64 0, .int .i64 0, .int .i64 0, .int .i64 0, .int .i64 0, .int .i64 0, .int .i64 0, .int .i64 0] 61))
  have OB1 := Lib.hid (OB1.out.alloc (.cells #[.int .i64 0, .int .i64 0, .int .i64 0, .bool false, .int .i64 0, .int .i64 0, .int .i64 0, .int .i64 0, .int .i64 0, .int .i64 0, .int .i64 0, .int .i64 0, .int .i64 0, .int .i64 0, .int .i64 0, .int .i64 0] 61))
  have HB := Lib.hid (HB.out.alloc HB.out.size (.cells #[.int .i64 0, .int .i64 0, .int .i64 0, .bool false, .int .i64 0, .int .i64 0, .int .i64 0, .int .i64 0, .int .i64 0, .int .i64 0, .int .i64 0, .int .i64 0, .int .i64 0, .int .i64 0, .int .i64 0, .int .i64 0] 61))
  rcases hc with ⟨k, a0, hk, hR, rfl⟩ | ⟨HD, m, r, gg, b, q, en, hG, rfl⟩
  · go_upto_region 24 with (refine store_o rfl 61 16 _ _ rfl wa.heap.size [.int .i64 0, .int .i64 0, .int .i64 0, .bool false, .int .i64 0, .int .i64 0, .int .i64 0, .int .i64 0, .int .i64 0, .int .i64 0, .int .i64 0, .int .i64 0, .int .i64 0, .int .i64 0, .int .i64 0, .int .i64 0] rfl rfl (by kernel_rfl) (by kernel_rfl) (by kernel_rfl) O9.out (by first | rfl | simp) ?_; intro wx hst hO; have O9 := Lib.hid hO; have O1 := Lib.hid (hst.oth O1.out (by omega)); have OB1 := Lib.hid (hst.oth OB1.out (by omega)); have OG := Lib.hid (hst.oth OG.out (by omega)); have HB := Lib.hid (hst.below HB.out (by omega)); clear hst hO)
    go_wp2_with ((with_reducible refine skip_g rfl ?_ ?_); rfl; intro _)
    go_ret2
    exact ⟨Or.inr ⟨Or.inl ⟨k, a0, hk, hR⟩, rfl⟩, HB.out⟩
  · have HG := Lib.hid hG
    obtain ⟨j0, j1, j2, j3, j4, j5, j6, j7, rfl, -, -, -, -⟩ := hG.2.2.1
    obtain ⟨sz1, W1, H1, top1, dp1, mt1, co1, m1, fr1⟩ := HD
    clear hG
    rw [show Hd.at ⟨sz1, W1, H1, top1, dp1, mt1, co1, m1, fr1⟩ [j0, j1, j2, j3, j4, j5, j6, j7] 0 = [.int .i64 sz1, .int .i64 W1, .int .i64 H1, .bool top1, .int .i64 dp1, .int .i64 mt1, .int .i64 co1, .int .i64 j0, .int .i64 j1, .int .i64 j2, .int .i64 j3, .int .i64 j4, .int .i64 j5, .int .i64 j6, .int .i64 j7, .int .i64 0] from rfl]
    go_upto_region 24 with (refine store_o rfl 61 16 _ _ rfl wa.heap.size [.int .i64 sz1, .int .i64 W1, .int .i64 H1, .bool top1, .int .i64 dp1, .int .i64 mt1, .int .i64 co1, .int .i64 j0, .int .i64 j1, .int .i64 j2, .int .i64 j3, .int .i64 j4, .int .i64 j5, .int .i64 j6, .int .i64 j7, .int .i64 0] rfl rfl (by kernel_rfl) (by kernel_rfl) (by kernel_rfl) O9.out (by first | rfl | simp) ?_; intro wx hst hO; have O9 := Lib.hid hO; have O1 := Lib.hid (hst.oth O1.out (by omega)); have OB1 := Lib.hid (hst.oth OB1.out (by omega)); have OG := Lib.hid (hst.oth OG.out (by omega)); have HB := Lib.hid (hst.below HB.out (by omega)); clear hst hO)
    obtain ⟨eb, heb⟩ : ∃ eb : Bool, (∀ w0, (Op.equalIn 10000 61 (.agg (List.toArray [.int .i64 sz1, .int .i64 W1, .int .i64 H1, .bool top1, .int .i64 dp1, .int .i64 mt1, .int .i64 co1, .int .i64 j0, .int .i64 j1, .int .i64 j2, .int .i64 j3, .int .i64 j4, .int .i64 j5, .int .i64 j6, .int .i64 j7, .int .i64 0])) (.agg (List.toArray [.int .i64 sz, .int .i64 W, .int .i64 H, .bool top, .int .i64 dp, .int .i64 mt, .int .i64 co, .int .i64 k0, .int .i64 k1, .int .i64 k2, .int .i64 k3, .int .i64 k4, .int .i64 k5, .int .i64 k6, .int .i64 k7, .int .i64 0]))).run Try.prog w0 = .ok eb w0) ∧ (eb = true ↔ ([.int .i64 sz1, .int .i64 W1, .int .i64 H1, .bool top1, .int .i64 dp1, .int .i64 mt1, .int .i64 co1, .int .i64 j0, .int .i64 j1, .int .i64 j2, .int .i64 j3, .int .i64 j4, .int .i64 j5, .int .i64 j6, .int .i64 j7, .int .i64 0] : List Value) = [.int .i64 sz, .int .i64 W, .int .i64 H, .bool top, .int .i64 dp, .int .i64 mt, .int .i64 co, .int .i64 k0, .int .i64 k1, .int .i64 k2, .int .i64 k3, .int .i64 k4, .int .i64 k5, .int .i64 k6, .int .i64 k7, .int .i64 0]) := ⟨_, fun w0 => heads_eq sz1 W1 H1 top1 dp1 mt1 co1 j0 j1 j2 j3 j4 j5 j6 j7 0 sz W H top dp mt co k0 k1 k2 k3 k4 k5 k6 k7 0 w0, heads_chain sz1 W1 H1 top1 dp1 mt1 co1 j0 j1 j2 j3 j4 j5 j6 j7 0 sz W H top dp mt co k0 k1 k2 k3 k4 k5 k6 k7 0⟩
    have HEQ := Lib.hid heb.1
    have HIF := Lib.hid heb.2
    clear heb
    go_upto_if 97 with (first | ((with_reducible refine skip_g rfl ?_ ?_); rfl; intro _) | (refine load_u (by kernel_rfl) 61 16 _ rfl wa.heap.size [.int .i64 sz1, .int .i64 W1, .int .i64 H1, .bool top1, .int .i64 dp1, .int .i64 mt1, .int .i64 co1, .int .i64 j0, .int .i64 j1, .int .i64 j2, .int .i64 j3, .int .i64 j4, .int .i64 j5, .int .i64 j6, .int .i64 j7, .int .i64 0] rfl rfl O9.out Try.underlying61 rfl (by kernel_rfl) ?_; intro _) | (refine load_u (by kernel_rfl) 61 16 _ rfl d [.int .i64 sz, .int .i64 W, .int .i64 H, .bool top, .int .i64 dp, .int .i64 mt, .int .i64 co, .int .i64 k0, .int .i64 k1, .int .i64 k2, .int .i64 k3, .int .i64 k4, .int .i64 k5, .int .i64 k6, .int .i64 k7, .int .i64 0] rfl rfl O1.out Try.underlying61 rfl (by kernel_rfl) ?_; intro _) | (refine neq_g (by kernel_rfl) 61 _ _ _ rfl _ _ rfl rfl Try.eqGuardType61 eb (HEQ.out _) ?_; intro _))
    cases eb
    · go_wp2_with fail
      go_ret2
      exact ⟨Or.inr ⟨Or.inr ⟨_, _, _, _, _, _, _, HG.out, fun e => absurd (HIF.out.2 e) (by decide)⟩, rfl⟩, HB.out⟩
    · have c0 : wx.cell? ⟨g + 1, 0, none⟩ = some (.slice (some ⟨g, 0, none⟩) 40 40) := (OB1.out.cell 0).trans rfl
      have hcv := conv_str wx g 40 40 L7 LN7 (Obj1.range0 (cs := (L7.map (Value.int .u8))) OG.out) _ _ _ Try.underlying72 Try.underlying5 Try.underlying9
      rw [ES.out] at hcv
      go_wp2_with fail
      go_ret2
      exact ⟨Or.inl ⟨_, _, _, _, _, _, _, HG.out, HIF.out.1 (by trivial), rfl⟩, HB.out⟩
set_option maxRecDepth 100000 in
set_option maxHeartbeats 16000000 in
theorem hbytes_52 (sz W H : Int) (top : Bool) (dp mt co k0 k1 k2 k3 k4 k5 k6 k7 fr : Int) (w : World) (h3 : (mt == 3) = true) : Calls Try.prog 39 #[.agg (List.toArray [.int .i64 sz, .int .i64 W, .int .i64 H, .bool top, .int .i64 dp, .int .i64 mt, .int .i64 co, .int .i64 k0, .int .i64 k1, .int .i64 k2, .int .i64 k3, .int .i64 k4, .int .i64 k5, .int .i64 k6, .int .i64 k7, .int .i64 fr])] w (BytesPost w (outS W H top dp mt co k0 k1 k2 k3 k4 k5) [.int .i64 sz, .int .i64 W, .int .i64 H, .bool top, .int .i64 dp, .int .i64 mt, .int .i64 co, .int .i64 k0, .int .i64 k1, .int .i64 k2, .int .i64 k3, .int .i64 k4, .int .i64 k5, .int .i64 k6, .int .i64 k7, .int .i64 0]) := by
  have HM := @mkB52
  obtain ⟨S, hS⟩ : ∃ S, outS W H top dp mt co k0 k1 k2 k3 k4 k5 = S := ⟨_, rfl⟩
  rw [hS]
  have HS := Lib.hid hS
  clear hS
  have O1 := Lib.hid (obj1_new w (List.toArray [.int .i64 sz, .int .i64 W, .int .i64 H, .bool top, .int .i64 dp, .int .i64 mt, .int .i64 co, .int .i64 k0, .int .i64 k1, .int .i64 k2, .int .i64 k3, .int .i64 k4, .int .i64 k5, .int .i64 k6, .int .i64 k7, .int .i64 fr]) 61)
  have HB := Lib.hid ((Below.refl w.heap.size w).alloc (Nat.le_refl _) (.cells (List.toArray [.int .i64 sz, .int .i64 W, .int .i64 H, .bool top, .int .i64 dp, .int .i64 mt, .int .i64 co, .int .i64 k0, .int .i64 k1, .int .i64 k2, .int .i64 k3, .int .i64 k4, .int .i64 k5, .int .i64 k6, .int .i64 k7, .int .i64 fr]) 61))
  obtain ⟨h, hh⟩ : ∃ x, topH top H = x := ⟨_, rfl⟩
  obtain ⟨c2, hc2⟩ : ∃ x, co20 dp co = x := ⟨_, rfl⟩
  have HH := Lib.hid hh
  have HC2 := Lib.hid hc2
  have HC3 := Lib.hid hc2
  go_enter Try.func39, Try.ntmps39
  go_upto_region 1 with (fail)
  generalize World.alloc _ _ = w1 at O1 HB ⊢
  obtain ⟨d, hd⟩ : ∃ d, w.heap.size = d := ⟨_, rfl⟩
  have HDD := Lib.hid hd
  rw [hd] at O1 ⊢
  clear hd
  have l1 := O1.out.lt
  have c5 : w1.cell? ⟨d, 5, none⟩ = some (.int .i64 mt) := (O1.out.cell 5).trans rfl
  go_upto_region 4 with (fail)
  have LN := repl_len 52
  obtain ⟨L0, hL0⟩ : ∃ L, List.replicate 52 (0 : Int) = L := ⟨_, rfl⟩
  rw [hL0] at LN
  have HL0 := Lib.hid hL0
  have OG := Lib.hid ((obj1_new w1 ((L0.map (.int .u8)).toArray) 5).alloc (.cells #[.slice (some ⟨w1.heap.size, 0, none⟩) 52 52] 72))
  have OB1 := Lib.hid (obj1_new (w1.alloc (.cells ((L0.map (.int .u8)).toArray) 5)) #[.slice (some ⟨w1.heap.size, 0, none⟩) 52 52] 72)
  rw [show (w1.alloc (.cells ((L0.map (.int .u8)).toArray) 5)).heap.size = w1.heap.size + 1 by simp] at OB1
  have O1 := Lib.hid ((O1.out.alloc (.cells ((L0.map (.int .u8)).toArray) 5)).alloc (.cells #[.slice (some ⟨w1.heap.size, 0, none⟩) 52 52] 72))
  have HB := Lib.hid ((HB.out.alloc HB.out.size (.cells ((L0.map (.int .u8)).toArray) 5)).alloc (Nat.le_trans HB.out.size (by simp)) (.cells #[.slice (some ⟨w1.heap.size, 0, none⟩) 52 52] 72))
  rw [hL0] at HM
  clear hL0
  go_upto_region 5 with (fail)
  generalize World.alloc _ _ = w2 at O1 OG OB1 HB ⊢
  obtain ⟨g, hg⟩ : ∃ g, w1.heap.size = g := ⟨_, rfl⟩
  rw [hg] at OG OB1 l1 ⊢
  have hgd : d ≠ g := by omega
  have hgd1 : d ≠ g + 1 := by omega
  have hgB : g + 1 ≠ g := by omega
  have hwd : w.heap.size ≤ g := by have := HDD.out; omega
  clear HM hg c5
  go_upto_region 6 with (fail)
  refine wp_region_noPanic ?_
  refine wp_region_held_drew (S := fun w' => w'.rangeAt d 0 [.int .i64 sz, .int .i64 W, .int .i64 H, .bool top, .int .i64 dp, .int .i64 mt, .int .i64 co, .int .i64 k0, .int .i64 k1, .int .i64 k2, .int .i64 k3, .int .i64 k4, .int .i64 k5, .int .i64 k6, .int .i64 k7, .int .i64 fr]) (by kernel_rfl) O1.out.range0 (fun hHeld => ?_)
  refine wpAnyH_take (i := 0) (v := .pointer (some ⟨d, 2, none⟩)) rfl (by kernel_rfl) (by kernel_rfl) (by kernel_rfl) (fun _ _ _ h => h) (Or.inl ⟨by rfl, fun w hS => by go_simp⟩) hHeld ?_
  simp only [Act.put, List.setIfInBounds_toArray, List.set_cons_zero, List.set_cons_succ, List.getElem_toArray, List.getElem_cons_zero, List.getElem_cons_succ]
  refine wpAnyH_take (i := 1) (v := .int .i64 H) rfl (by kernel_rfl) (by kernel_rfl) (by kernel_rfl) (fun _ _ _ h => h) (Or.inl ⟨by rfl, fun w hS => by (have hc : w.cell? ⟨d, 2, none⟩ = some (.int .i64 H) := hS 2 _ rfl); go_simp⟩) hHeld ?_
  simp only [Act.put, List.setIfInBounds_toArray, List.set_cons_zero, List.set_cons_succ, List.getElem_toArray, List.getElem_cons_zero, List.getElem_cons_succ]
  refine wpAnyH_take (i := 2) (v := .pointer (some ⟨d, 6, none⟩)) rfl (by kernel_rfl) (by kernel_rfl) (by kernel_rfl) (fun _ _ _ h => h) (Or.inl ⟨by rfl, fun w hS => by go_simp⟩) hHeld ?_
  simp only [Act.put, List.setIfInBounds_toArray, List.set_cons_zero, List.set_cons_succ, List.getElem_toArray, List.getElem_cons_zero, List.getElem_cons_succ]
  refine wpAnyH_take (i := 3) (v := .int .i64 co) rfl (by kernel_rfl) (by kernel_rfl) (by kernel_rfl) (fun _ _ _ h => h) (Or.inl ⟨by rfl, fun w hS => by (have hc : w.cell? ⟨d, 6, none⟩ = some (.int .i64 co) := hS 6 _ rfl); go_simp⟩) hHeld ?_
  simp only [Act.put, List.setIfInBounds_toArray, List.set_cons_zero, List.set_cons_succ, List.getElem_toArray, List.getElem_cons_zero, List.getElem_cons_succ]
  refine wpAnyH_take (i := 4) (v := .int .i64 H) rfl (by kernel_rfl) (by kernel_rfl) (by kernel_rfl) (fun _ _ _ h => h) (Or.inl ⟨by rfl, fun w hS => by go_simp⟩) hHeld ?_
  simp only [Act.put, List.setIfInBounds_toArray, List.set_cons_zero, List.set_cons_succ, List.getElem_toArray, List.getElem_cons_zero, List.getElem_cons_succ]
  refine wpAnyH_take (i := 5) (v := .int .i64 co) rfl (by kernel_rfl) (by kernel_rfl) (by kernel_rfl) (fun _ _ _ h => h) (Or.inl ⟨by rfl, fun w hS => by go_simp⟩) hHeld ?_
  simp only [Act.put, List.setIfInBounds_toArray, List.set_cons_zero, List.set_cons_succ, List.getElem_toArray, List.getElem_cons_zero, List.getElem_cons_succ]
  have O1 := Lib.hid (O1.out.drew)
  have OG := Lib.hid (OG.out.drew)
  have OB1 := Lib.hid (OB1.out.drew)
  have HB := Lib.hid HB.out.drew
  generalize World.drew _ = wk at O1 OG OB1 HB ⊢
  refine wpAnyH_done (by kernel_rfl) ?_ _
  refine NoPanic.normal ?_
  have c3 : wk.cell? ⟨d, 3, none⟩ = some (.bool top) := (O1.out.cell 3).trans rfl
  go_upto_if 24 with (fail)
  go_cut [7] from 25 to 26 (fun c wx => c = .int .i64 h ∧ wx = wk)
  case first =>
    cases top
    · have e : h = H := HH.out.symm
      subst e
      go_wp2_with fail
      go_meet
      exact ⟨rfl, rfl⟩
    · have e : h = wrap64 (-H) := HH.out.symm
      subst e
      go_wp2_with fail
      go_meet
      exact ⟨rfl, rfl⟩
  case rest =>
  obtain ⟨rfl, rfl⟩ := hcut
  obtain ⟨wk, rfl⟩ : ∃ x, x = wc := ⟨_, rfl⟩
  clear c3
  have c4 : wk.cell? ⟨d, 4, none⟩ = some (.int .i64 dp) := (O1.out.cell 4).trans rfl
  obtain ⟨M, hM⟩ : ∃ M, mostI dp = M := ⟨_, rfl⟩
  obtain ⟨d1, hd1⟩ : ∃ x, decide (dp ≥ 1) = x := ⟨_, rfl⟩
  obtain ⟨d8, hd8⟩ : ∃ x, decide (dp ≤ 8) = x := ⟨_, rfl⟩
  obtain ⟨ce, hce⟩ : ∃ x, (co == M) = x := ⟨_, rfl⟩
  obtain ⟨z, hz⟩ : ∃ x, (d1 && (d8 && ce)) = x := ⟨_, rfl⟩
  have HZ := Lib.hid hz
  have EC2 := Lib.hid (show c2 = if z = true then 0 else co by
    rw [← HC2.out]; unfold co20; rw [hM]
    by_cases h1 : 1 ≤ dp
    · by_cases h8 : dp ≤ 8
      · by_cases hc : co = M
        · rw [if_pos ⟨h1, h8, hc⟩, if_pos (by rw [← hz, ← hd1, ← hd8, ← hce, hc]; simp [h1, h8])]
        · rw [if_neg (fun h => hc h.2.2), if_neg (by rw [← hz, ← hce]; simp [hc])]
      · rw [if_neg (fun h => h8 h.2.1), if_neg (by rw [← hz, ← hd8]; simp [h8])]
    · rw [if_neg (fun h => h1 h.1), if_neg (by rw [← hz, ← hd1]; simp; omega)])
  have HMO := Lib.hid (fun w0 (h0 : d1 = true) => hM ▸ most_any dp w0 (by rw [h0] at hd1; have := of_decide_eq_true hd1; omega))
  clear hz hM hc2 HC2 hh
  go_upto_region 9 with (fail)
  go_cut [41] from 27 to 41 (fun c wx => c = .bool z ∧ wx = wk)
  case first =>
    cases d1
    · go_wp2_with ((with_reducible refine skip_g rfl ?_ ?_); rfl; intro _)
      go_meet
      exact ⟨by rw [← HZ.out] <;> rfl, rfl⟩
    · cases d8
      · go_wp2_with ((with_reducible refine skip_g rfl ?_ ?_); rfl; intro _)
        go_meet
        exact ⟨by rw [← HZ.out] <;> rfl, rfl⟩
      · cases ce
        · go_wp2_with (first | ((with_reducible refine skip_g rfl ?_ ?_); rfl; intro _) | ((go_at_call 81; (with_reducible refine (HMO.out _ rfl).mono ?_); rintro e wl ⟨rfl, hq⟩); have hq := hq.symm; subst hq))
          go_meet
          exact ⟨by rw [← HZ.out] <;> rfl, rfl⟩
        · go_wp2_with (first | ((with_reducible refine skip_g rfl ?_ ?_); rfl; intro _) | ((go_at_call 81; (with_reducible refine (HMO.out _ rfl).mono ?_); rintro e wl ⟨rfl, hq⟩); have hq := hq.symm; subst hq))
          go_meet
          exact ⟨by rw [← HZ.out] <;> rfl, rfl⟩
  case rest =>
  obtain ⟨rfl, rfl⟩ := hcut
  obtain ⟨wk, rfl⟩ : ∃ x, x = wc := ⟨_, rfl⟩
  clear HMO hd1 hd8 hce HZ
  go_upto_if 41 with (fail)
  go_cut [8] from 42 to 42 (fun c wx => c = .int .i64 c2 ∧ wx = wk)
  case first =>
    cases z
    · have e : c2 = co := EC2.out
      subst e
      go_wp2_with fail
      go_meet
      exact ⟨rfl, rfl⟩
    · have e : c2 = 0 := EC2.out
      subst e
      go_wp2_with fail
      go_meet
      exact ⟨rfl, rfl⟩
  case rest =>
  obtain ⟨rfl, rfl⟩ := hcut
  obtain ⟨wk, rfl⟩ : ∃ x, x = wc := ⟨_, rfl⟩
  clear c4 EC2
  go_upto_region 12 with ((go_at_call 80; (with_reducible refine (bput_c 0 40 0 52 (g + 1) g L0 _ rfl LN (by omega) (by omega) hgB OB1.out OG.out).mono ?_); rintro e wp1 ⟨rfl, hG, hC⟩); have O1 := Lib.hid (hC.obj O1.out hgd); have OB1 := Lib.hid (hC.obj OB1.out hgB); have OG := Lib.hid hG; have HB := Lib.hid (bchg HB.out hC HB.out.size (fun k hk => by rw [hk]; exact hwd)); clear hG hC)
  obtain ⟨L1, hL1⟩ : ∃ L, setB L0 0 40 4 = L := ⟨_, rfl⟩
  have LN1 : L1.length = 52 := by rw [← hL1, setB_len, LN]
  rw [hL1] at OG
  have HL1 := Lib.hid hL1
  clear hL1
  have c1 : wp1.cell? ⟨d, 1, none⟩ = some (.int .i64 W) := (O1.out.cell 1).trans rfl
  go_upto_region 13 with ((go_at_call 80; (with_reducible refine (bput_c 4 W 4 52 (g + 1) g L1 _ rfl LN1 (by omega) (by omega) hgB OB1.out OG.out).mono ?_); rintro e wp2 ⟨rfl, hG, hC⟩); have O1 := Lib.hid (hC.obj O1.out hgd); have OB1 := Lib.hid (hC.obj OB1.out hgB); have OG := Lib.hid hG; have HB := Lib.hid (bchg HB.out hC HB.out.size (fun k hk => by rw [hk]; exact hwd)); clear hG hC)
  obtain ⟨L2, hL2⟩ : ∃ L, setB L1 4 W 4 = L := ⟨_, rfl⟩
  have LN2 : L2.length = 52 := by rw [← hL2, setB_len, LN1]
  rw [hL2] at OG
  have HL2 := Lib.hid hL2
  clear hL2
  clear c1
  go_upto_region 14 with ((go_at_call 80; (with_reducible refine (bput_c 8 h 8 52 (g + 1) g L2 _ rfl LN2 (by omega) (by omega) hgB OB1.out OG.out).mono ?_); rintro e wp3 ⟨rfl, hG, hC⟩); have O1 := Lib.hid (hC.obj O1.out hgd); have OB1 := Lib.hid (hC.obj OB1.out hgB); have OG := Lib.hid hG; have HB := Lib.hid (bchg HB.out hC HB.out.size (fun k hk => by rw [hk]; exact hwd)); clear hG hC)
  obtain ⟨L3, hL3⟩ : ∃ L, setB L2 8 h 4 = L := ⟨_, rfl⟩
  have LN3 : L3.length = 52 := by rw [← hL3, setB_len, LN2]
  rw [hL3] at OG
  have HL3 := Lib.hid hL3
  clear hL3
  have c4 : wp3.cell? ⟨d, 4, none⟩ = some (.int .i64 dp) := (O1.out.cell 4).trans rfl
  go_upto_region 15 with ((go_at_call 80; (with_reducible refine (bput_c 14 dp 14 52 (g + 1) g L3 _ rfl LN3 (by omega) (by omega) hgB OB1.out OG.out).mono ?_); rintro e wp4 ⟨rfl, hG, hC⟩); have O1 := Lib.hid (hC.obj O1.out hgd); have OB1 := Lib.hid (hC.obj OB1.out hgB); have OG := Lib.hid hG; have HB := Lib.hid (bchg HB.out hC HB.out.size (fun k hk => by rw [hk]; exact hwd)); clear hG hC)
  obtain ⟨L4, hL4⟩ : ∃ L, setB L3 14 dp 4 = L := ⟨_, rfl⟩
  have LN4 : L4.length = 52 := by rw [← hL4, setB_len, LN3]
  rw [hL4] at OG
  have HL4 := Lib.hid hL4
  clear hL4
  clear c4
  have c0 : wp4.cell? ⟨g + 1, 0, none⟩ = some (.slice (some ⟨g, 0, none⟩) 52 52) := (OB1.out.cell 0).trans rfl
  have cB : wp4.cell? ⟨g, 12, none⟩ = some (.int .u8 (L4.getD 12 0)) := (OG.out.cell 12).trans (by rw [List.getElem?_toArray, List.getElem?_map, List.getElem?_eq_getElem (by omega), List.getD_eq_getElem?_getD, List.getElem?_eq_getElem (by omega)]; rfl)
  have fB : wp4.frozen? ⟨g, 12, none⟩ = false := OG.out.frozen 12
  go_upto_region 16 with (fail)
  have OG := Lib.hid (OG.out.setL 12 1)
  have O1 := Lib.hid (O1.out.set_other ⟨g, 12, none⟩ (.int .u8 1) (by simpa using hgd))
  have OB1 := Lib.hid (OB1.out.set_other ⟨g, 12, none⟩ (.int .u8 1) (by simp))
  have HB := Lib.hid (HB.out.setCell (p := ⟨g, 12, none⟩) hwd (.int .u8 1))
  clear c0 cB fB
  generalize World.setCell _ _ _ = wq at O1 OG OB1 HB ⊢
  obtain ⟨L5, hL5⟩ : ∃ L, L4.set 12 1 = L := ⟨_, rfl⟩
  have LN5 : L5.length = 52 := by rw [← hL5, List.length_set, LN4]
  rw [hL5] at OG
  have HL5 := Lib.hid hL5
  clear hL5
  have c5 : wq.cell? ⟨d, 5, none⟩ = some (.int .i64 mt) := (O1.out.cell 5).trans rfl
  go_upto_region 17 with ((go_at_call 80; (with_reducible refine (bput_c 16 mt 16 52 (g + 1) g L5 _ rfl LN5 (by omega) (by omega) hgB OB1.out OG.out).mono ?_); rintro e wp6 ⟨rfl, hG, hC⟩); have O1 := Lib.hid (hC.obj O1.out hgd); have OB1 := Lib.hid (hC.obj OB1.out hgB); have OG := Lib.hid hG; have HB := Lib.hid (bchg HB.out hC HB.out.size (fun k hk => by rw [hk]; exact hwd)); clear hG hC)
  obtain ⟨L6, hL6⟩ : ∃ L, setB L5 16 mt 4 = L := ⟨_, rfl⟩
  have LN6 : L6.length = 52 := by rw [← hL6, setB_len, LN5]
  rw [hL6] at OG
  have HL6 := Lib.hid hL6
  clear hL6
  clear c5
  go_upto_region 19 with ((go_at_call 80; (with_reducible refine (bput_c 32 c2 32 52 (g + 1) g L6 _ rfl LN6 (by omega) (by omega) hgB OB1.out OG.out).mono ?_); rintro e wp7 ⟨rfl, hG, hC⟩); have O1 := Lib.hid (hC.obj O1.out hgd); have OB1 := Lib.hid (hC.obj OB1.out hgB); have OG := Lib.hid hG; have HB := Lib.hid (bchg HB.out hC HB.out.size (fun k hk => by rw [hk]; exact hwd)); clear hG hC)
  obtain ⟨L7, hL7⟩ : ∃ L, setB L6 32 c2 4 = L := ⟨_, rfl⟩
  have LN7 : L7.length = 52 := by rw [← hL7, setB_len, LN6]
  rw [hL7] at OG
  have HL7 := Lib.hid hL7
  clear hL7
  obtain ⟨r0, hr0⟩ : ∃ x, wordI k0 k1 = x := ⟨_, rfl⟩
  have HW0 := Lib.hid (fun w0 => hr0 ▸ mword_any k0 k1 w0)
  have Hr0 := Lib.hid hr0
  clear hr0
  go_upto_region 20 with (first | (refine load_ag (by kernel_rfl) 57 _ rfl d 7 [.int .i64 k0, .int .i64 k1] rfl O1.out rfl Try.underlying57 rfl (by kernel_rfl) ?_; intro _) | ((go_at_call 78; (with_reducible refine (HW0.out _).mono ?_); rintro e wm ⟨rfl, hb⟩); have O1 := Lib.hid (O1.out.below hb O1.out.lt); have OG := Lib.hid (OG.out.below hb OG.out.lt); have OB1 := Lib.hid (OB1.out.below hb OB1.out.lt); have HB := Lib.hid (bthen hb HB.out HB.out.size); clear hb) | ((go_at_call 80; (with_reducible refine (bput_c 40 r0 40 52 (g + 1) g L7 _ rfl LN7 (by omega) (by omega) hgB OB1.out OG.out).mono ?_); rintro e wp8 ⟨rfl, hG, hC⟩); have O1 := Lib.hid (hC.obj O1.out hgd); have OB1 := Lib.hid (hC.obj OB1.out hgB); have OG := Lib.hid hG; have HB := Lib.hid (bchg HB.out hC HB.out.size (fun k hk => by rw [hk]; exact hwd)); clear hG hC))
  obtain ⟨L8, hL8⟩ : ∃ L, setB L7 40 r0 4 = L := ⟨_, rfl⟩
  have LN8 : L8.length = 52 := by rw [← hL8, setB_len, LN7]
  rw [hL8] at OG
  have HL8 := Lib.hid hL8
  clear hL8
  obtain ⟨g0, hg0⟩ : ∃ x, wordI k2 k3 = x := ⟨_, rfl⟩
  have HW1 := Lib.hid (fun w0 => hg0 ▸ mword_any k2 k3 w0)
  have Hg0 := Lib.hid hg0
  clear hg0
  go_upto_region 21 with (first | (refine load_ag (by kernel_rfl) 57 _ rfl d 9 [.int .i64 k2, .int .i64 k3] rfl O1.out rfl Try.underlying57 rfl (by kernel_rfl) ?_; intro _) | ((go_at_call 78; (with_reducible refine (HW1.out _).mono ?_); rintro e wm ⟨rfl, hb⟩); have O1 := Lib.hid (O1.out.below hb O1.out.lt); have OG := Lib.hid (OG.out.below hb OG.out.lt); have OB1 := Lib.hid (OB1.out.below hb OB1.out.lt); have HB := Lib.hid (bthen hb HB.out HB.out.size); clear hb) | ((go_at_call 80; (with_reducible refine (bput_c 44 g0 44 52 (g + 1) g L8 _ rfl LN8 (by omega) (by omega) hgB OB1.out OG.out).mono ?_); rintro e wp9 ⟨rfl, hG, hC⟩); have O1 := Lib.hid (hC.obj O1.out hgd); have OB1 := Lib.hid (hC.obj OB1.out hgB); have OG := Lib.hid hG; have HB := Lib.hid (bchg HB.out hC HB.out.size (fun k hk => by rw [hk]; exact hwd)); clear hG hC))
  obtain ⟨L9, hL9⟩ : ∃ L, setB L8 44 g0 4 = L := ⟨_, rfl⟩
  have LN9 : L9.length = 52 := by rw [← hL9, setB_len, LN8]
  rw [hL9] at OG
  have HL9 := Lib.hid hL9
  clear hL9
  obtain ⟨b0, hb0⟩ : ∃ x, wordI k4 k5 = x := ⟨_, rfl⟩
  have HW2 := Lib.hid (fun w0 => hb0 ▸ mword_any k4 k5 w0)
  have Hb0 := Lib.hid hb0
  clear hb0
  go_upto_region 22 with (first | (refine load_ag (by kernel_rfl) 57 _ rfl d 11 [.int .i64 k4, .int .i64 k5] rfl O1.out rfl Try.underlying57 rfl (by kernel_rfl) ?_; intro _) | ((go_at_call 78; (with_reducible refine (HW2.out _).mono ?_); rintro e wm ⟨rfl, hb⟩); have O1 := Lib.hid (O1.out.below hb O1.out.lt); have OG := Lib.hid (OG.out.below hb OG.out.lt); have OB1 := Lib.hid (OB1.out.below hb OB1.out.lt); have HB := Lib.hid (bthen hb HB.out HB.out.size); clear hb) | ((go_at_call 80; (with_reducible refine (bput_c 48 b0 48 52 (g + 1) g L9 _ rfl LN9 (by omega) (by omega) hgB OB1.out OG.out).mono ?_); rintro e wp10 ⟨rfl, hG, hC⟩); have O1 := Lib.hid (hC.obj O1.out hgd); have OB1 := Lib.hid (hC.obj OB1.out hgB); have OG := Lib.hid hG; have HB := Lib.hid (bchg HB.out hC HB.out.size (fun k hk => by rw [hk]; exact hwd)); clear hG hC))
  obtain ⟨L10, hL10⟩ : ∃ L, setB L9 48 b0 4 = L := ⟨_, rfl⟩
  have LN10 : L10.length = 52 := by rw [← hL10, setB_len, LN9]
  rw [hL10] at OG
  have HL10 := Lib.hid hL10
  clear hL10
  have cB : wp10.cell? ⟨d, 15, none⟩ = some (.int .i64 fr) := (O1.out.cell 15).trans rfl
  have fB : wp10.frozen? ⟨d, 15, none⟩ = false := O1.out.frozen 15
  go_upto_region 23 with (fail)
  have O1 := Lib.hid ((O1.out.set 15 (.int .i64 0)).cells (show _ = List.toArray [.int .i64 sz, .int .i64 W, .int .i64 H, .bool top, .int .i64 dp, .int .i64 mt, .int .i64 co, .int .i64 k0, .int .i64 k1, .int .i64 k2, .int .i64 k3, .int .i64 k4, .int .i64 k5, .int .i64 k6, .int .i64 k7, .int .i64 0] from rfl))
  have OG := Lib.hid (OG.out.set_other ⟨d, 15, none⟩ (.int .i64 0) (by simpa using Ne.symm hgd))
  have OB1 := Lib.hid (OB1.out.set_other ⟨d, 15, none⟩ (.int .i64 0) (by simpa using Ne.symm hgd1))
  have HB := Lib.hid (HB.out.setCell (p := ⟨d, 15, none⟩) (by have := HDD.out; simp; omega) (.int .i64 0))
  clear cB fB
  generalize World.setCell _ _ _ = wr at O1 OG OB1 HB ⊢
  have ES : strOf L10 = S := by
    rw [← HS.out]; unfold outS outA outM; rw [if_pos (eq_of_beq h3), HH.out, HC3.out, Hr0.out, Hg0.out, Hb0.out, HL0.out, HL1.out, HL2.out, HL3.out, HL4.out, HL5.out, HL6.out, HL7.out, HL8.out, HL9.out, HL10.out]
  have hcv := conv_str wr g 52 52 L10 LN10 (Obj1.range0 (cs := (L10.map (Value.int .u8))) OG.out) _ _ _ Try.underlying72 Try.underlying5 Try.underlying9
  rw [ES] at hcv
  have ES := Lib.hid ES
  have hSz : S.size ≤ 100000 := by rw [← ES.out, strOf_size3, LN10]; omega
  have c0 : wr.cell? ⟨g + 1, 0, none⟩ = some (.slice (some ⟨g, 0, none⟩) 52 52) := (OB1.out.cell 0).trans rfl
  clear HL0 HL1 HL2 HL3 HL4 HL5 HL6 HL7 HL8 HL9 HL10 HS HH HC3
  go_wp2_with fail
  refine (again2 S _ hSz).mono ?_
  rintro e wa ⟨hc, hb⟩
  have O1 := Lib.hid (O1.out.below hb O1.out.lt)
  have OG := Lib.hid (OG.out.below hb OG.out.lt)
  have OB1 := Lib.hid (OB1.out.below hb OB1.out.lt)
  have HB := Lib.hid (bthen hb HB.out HB.out.size)
  clear hb hcv c0 hSz
  have hz1 : d ≠ wa.heap.size := by have := O1.out.lt; omega
  have hz2 : g ≠ wa.heap.size := by have := OG.out.lt; omega
  have hz3 : g + 1 ≠ wa.heap.size := by have := OB1.out.lt; omega
  have hz4 : w.heap.size ≤ wa.heap.size := HB.out.size
  have O9 := Lib.hid (obj1_new wa #[.int .i64 0, .int .i64 0, .int .i64 0, .bool false, .int .i64 0, .int .i64 0, .int .i64 0, .int .i64 0, .int .i64 0, .int .i64 0, .int .i64 0, .int .i64 0, .int .i64 0, .int .i64 0, .int .i64 0, .int .i64 0] 61)
  have O1 := Lib.hid (O1.out.alloc (.cells #[.int .i64 0, .int .i64 0, .int .i64 0, .bool false, .int .i64 0, .int .i64 0, .int .i64 0, .int .i64 0, .int .i64 0, .int .i64 0, .int .i64 0, .int .i64 0, .int .i64 0, .int .i64 0, .int .i64 0, .int .i64 0] 61))
  have OG := Lib.hid (OG.out.alloc (.cells #[.int .i64 0, .int .i64 0, .int .i64 0, .bool false, .int .i64 0, .int .i64 0, .int .i64 0, .int .i64 0, .int .i64 0, .int .i64 0, .int .i64 0, .int .i64 0, .int .i64 0, .int .i64 0, .int .i64 0, .int .i64 0] 61))
  have OB1 := Lib.hid (OB1.out.alloc (.cells #[.int .i64 0, .int .i64 0, .int .i64 0, .bool false, .int .i64 0, .int .i64 0, .int .i64 0, .int .i64 0, .int .i64 0, .int .i64 0, .int .i64 0, .int .i64 0, .int .i64 0, .int .i64 0, .int .i64 0, .int .i64 0] 61))
  have HB := Lib.hid (HB.out.alloc HB.out.size (.cells #[.int .i64 0, .int .i64 0, .int .i64 0, .bool false, .int .i64 0, .int .i64 0, .int .i64 0, .int .i64 0, .int .i64 0, .int .i64 0, .int .i64 0, .int .i64 0, .int .i64 0, .int .i64 0, .int .i64 0, .int .i64 0] 61))
  rcases hc with ⟨k, a0, hk, hR, rfl⟩ | ⟨HD, m, r, gg, b, q, en, hG, rfl⟩
  · go_upto_region 24 with (refine store_o rfl 61 16 _ _ rfl wa.heap.size [.int .i64 0, .int .i64 0, .int .i64 0, .bool false, .int .i64 0, .int .i64 0, .int .i64 0, .int .i64 0, .int .i64 0, .int .i64 0, .int .i64 0, .int .i64 0, .int .i64 0, .int .i64 0, .int .i64 0, .int .i64 0] rfl rfl (by kernel_rfl) (by kernel_rfl) (by kernel_rfl) O9.out (by first | rfl | simp) ?_; intro wx hst hO; have O9 := Lib.hid hO; have O1 := Lib.hid (hst.oth O1.out (by omega)); have OB1 := Lib.hid (hst.oth OB1.out (by omega)); have OG := Lib.hid (hst.oth OG.out (by omega)); have HB := Lib.hid (hst.below HB.out (by omega)); clear hst hO)
    go_wp2_with ((with_reducible refine skip_g rfl ?_ ?_); rfl; intro _)
    go_ret2
    exact ⟨Or.inr ⟨Or.inl ⟨k, a0, hk, hR⟩, rfl⟩, HB.out⟩
  · have HG := Lib.hid hG
    obtain ⟨j0, j1, j2, j3, j4, j5, j6, j7, rfl, -, -, -, -⟩ := hG.2.2.1
    obtain ⟨sz1, W1, H1, top1, dp1, mt1, co1, m1, fr1⟩ := HD
    clear hG
    rw [show Hd.at ⟨sz1, W1, H1, top1, dp1, mt1, co1, m1, fr1⟩ [j0, j1, j2, j3, j4, j5, j6, j7] 0 = [.int .i64 sz1, .int .i64 W1, .int .i64 H1, .bool top1, .int .i64 dp1, .int .i64 mt1, .int .i64 co1, .int .i64 j0, .int .i64 j1, .int .i64 j2, .int .i64 j3, .int .i64 j4, .int .i64 j5, .int .i64 j6, .int .i64 j7, .int .i64 0] from rfl]
    go_upto_region 24 with (refine store_o rfl 61 16 _ _ rfl wa.heap.size [.int .i64 sz1, .int .i64 W1, .int .i64 H1, .bool top1, .int .i64 dp1, .int .i64 mt1, .int .i64 co1, .int .i64 j0, .int .i64 j1, .int .i64 j2, .int .i64 j3, .int .i64 j4, .int .i64 j5, .int .i64 j6, .int .i64 j7, .int .i64 0] rfl rfl (by kernel_rfl) (by kernel_rfl) (by kernel_rfl) O9.out (by first | rfl | simp) ?_; intro wx hst hO; have O9 := Lib.hid hO; have O1 := Lib.hid (hst.oth O1.out (by omega)); have OB1 := Lib.hid (hst.oth OB1.out (by omega)); have OG := Lib.hid (hst.oth OG.out (by omega)); have HB := Lib.hid (hst.below HB.out (by omega)); clear hst hO)
    obtain ⟨eb, heb⟩ : ∃ eb : Bool, (∀ w0, (Op.equalIn 10000 61 (.agg (List.toArray [.int .i64 sz1, .int .i64 W1, .int .i64 H1, .bool top1, .int .i64 dp1, .int .i64 mt1, .int .i64 co1, .int .i64 j0, .int .i64 j1, .int .i64 j2, .int .i64 j3, .int .i64 j4, .int .i64 j5, .int .i64 j6, .int .i64 j7, .int .i64 0])) (.agg (List.toArray [.int .i64 sz, .int .i64 W, .int .i64 H, .bool top, .int .i64 dp, .int .i64 mt, .int .i64 co, .int .i64 k0, .int .i64 k1, .int .i64 k2, .int .i64 k3, .int .i64 k4, .int .i64 k5, .int .i64 k6, .int .i64 k7, .int .i64 0]))).run Try.prog w0 = .ok eb w0) ∧ (eb = true ↔ ([.int .i64 sz1, .int .i64 W1, .int .i64 H1, .bool top1, .int .i64 dp1, .int .i64 mt1, .int .i64 co1, .int .i64 j0, .int .i64 j1, .int .i64 j2, .int .i64 j3, .int .i64 j4, .int .i64 j5, .int .i64 j6, .int .i64 j7, .int .i64 0] : List Value) = [.int .i64 sz, .int .i64 W, .int .i64 H, .bool top, .int .i64 dp, .int .i64 mt, .int .i64 co, .int .i64 k0, .int .i64 k1, .int .i64 k2, .int .i64 k3, .int .i64 k4, .int .i64 k5, .int .i64 k6, .int .i64 k7, .int .i64 0]) := ⟨_, fun w0 => heads_eq sz1 W1 H1 top1 dp1 mt1 co1 j0 j1 j2 j3 j4 j5 j6 j7 0 sz W H top dp mt co k0 k1 k2 k3 k4 k5 k6 k7 0 w0, heads_chain sz1 W1 H1 top1 dp1 mt1 co1 j0 j1 j2 j3 j4 j5 j6 j7 0 sz W H top dp mt co k0 k1 k2 k3 k4 k5 k6 k7 0⟩
    have HEQ := Lib.hid heb.1
    have HIF := Lib.hid heb.2
    clear heb
    go_upto_if 97 with (first | ((with_reducible refine skip_g rfl ?_ ?_); rfl; intro _) | (refine load_u (by kernel_rfl) 61 16 _ rfl wa.heap.size [.int .i64 sz1, .int .i64 W1, .int .i64 H1, .bool top1, .int .i64 dp1, .int .i64 mt1, .int .i64 co1, .int .i64 j0, .int .i64 j1, .int .i64 j2, .int .i64 j3, .int .i64 j4, .int .i64 j5, .int .i64 j6, .int .i64 j7, .int .i64 0] rfl rfl O9.out Try.underlying61 rfl (by kernel_rfl) ?_; intro _) | (refine load_u (by kernel_rfl) 61 16 _ rfl d [.int .i64 sz, .int .i64 W, .int .i64 H, .bool top, .int .i64 dp, .int .i64 mt, .int .i64 co, .int .i64 k0, .int .i64 k1, .int .i64 k2, .int .i64 k3, .int .i64 k4, .int .i64 k5, .int .i64 k6, .int .i64 k7, .int .i64 0] rfl rfl O1.out Try.underlying61 rfl (by kernel_rfl) ?_; intro _) | (refine neq_g (by kernel_rfl) 61 _ _ _ rfl _ _ rfl rfl Try.eqGuardType61 eb (HEQ.out _) ?_; intro _))
    cases eb
    · go_wp2_with fail
      go_ret2
      exact ⟨Or.inr ⟨Or.inr ⟨_, _, _, _, _, _, _, HG.out, fun e => absurd (HIF.out.2 e) (by decide)⟩, rfl⟩, HB.out⟩
    · have c0 : wx.cell? ⟨g + 1, 0, none⟩ = some (.slice (some ⟨g, 0, none⟩) 52 52) := (OB1.out.cell 0).trans rfl
      have hcv := conv_str wx g 52 52 L10 LN10 (Obj1.range0 (cs := (L10.map (Value.int .u8))) OG.out) _ _ _ Try.underlying72 Try.underlying5 Try.underlying9
      rw [ES.out] at hcv
      go_wp2_with fail
      go_ret2
      exact ⟨Or.inl ⟨_, _, _, _, _, _, _, HG.out, HIF.out.1 (by trivial), rfl⟩, HB.out⟩
theorem hbytes_any (sz W H : Int) (top : Bool) (dp mt co k0 k1 k2 k3 k4 k5 k6 k7 fr : Int) (w : World) : Calls Try.prog 39 #[.agg (List.toArray [.int .i64 sz, .int .i64 W, .int .i64 H, .bool top, .int .i64 dp, .int .i64 mt, .int .i64 co, .int .i64 k0, .int .i64 k1, .int .i64 k2, .int .i64 k3, .int .i64 k4, .int .i64 k5, .int .i64 k6, .int .i64 k7, .int .i64 fr])] w (BytesPost w (outS W H top dp mt co k0 k1 k2 k3 k4 k5) [.int .i64 sz, .int .i64 W, .int .i64 H, .bool top, .int .i64 dp, .int .i64 mt, .int .i64 co, .int .i64 k0, .int .i64 k1, .int .i64 k2, .int .i64 k3, .int .i64 k4, .int .i64 k5, .int .i64 k6, .int .i64 k7, .int .i64 0]) := by
  cases h3 : (mt == 3) with
  | false => exact hbytes_40 sz W H top dp mt co k0 k1 k2 k3 k4 k5 k6 k7 fr w h3
  | true => exact hbytes_52 sz W H top dp mt co k0 k1 k2 k3 k4 k5 k6 k7 fr w h3
end Go.Proofs.Ytlhcjnjajkfahaa

/- The chapter's example of layer 16, walked. -/
import Derived.Test.YtomikbecbbjhoaaT6
import Derived.Test.YtomikbecbbjhoaaS9
import Derived.Deep.CutRange
namespace Go.Proofs.Ytomikbecbbjhoaa
open Go.RowKit
set_option linter.unusedVariables false
set_option linter.unusedSimpArgs false
theorem conv_str (w : World) (B n c : Nat) (l : List Int) (hn : l.length = n) (hc : w.rangeAt B 0 (l.map (Value.int .u8))) (src dst e' : TypeId) (hs : Try.prog.underlying src = some (.slice e')) (he : Try.prog.underlying e' = some (.int .u8)) (hd : Try.prog.underlying dst = some .string) :
    (convert src dst (.slice (some ⟨B, 0, none⟩) n c)).run Try.prog w = .ok (.string (strOf l)) w := by
  subst hn
  rw [run_convert_bytes_string _ src dst e' _ l.length c hs he hd]
  refine run_bytesToString _ _ l.length c l ?_
  have := run_loadCells_list (P := Try.prog) w ⟨B, 0, none⟩ (l.map (Value.int .u8)) (fun j v hv => by
    rw [Addr.add_mid]; exact hc j v hv)
  simpa using this
def z18 : ByteArray := strOf (List.replicate 18 0)
theorem z18_size : z18.size = 18 := rfl
theorem mk18 (w : World) : (Instr.makeSlice 100 (.int .i64 18) (.int .i64 18)).run Try.prog w = .ok (.slice (some ⟨w.heap.size, 0, none⟩) 18 18) (w.alloc (.cells #[.int .u8 0, .int .u8 0, .int .u8 0, .int .u8 0, .int .u8 0, .int .u8 0, .int .u8 0, .int .u8 0, .int .u8 0, .int .u8 0, .int .u8 0, .int .u8 0, .int .u8 0, .int .u8 0, .int .u8 0, .int .u8 0, .int .u8 0, .int .u8 0] 5)) := by kernel_rfl
theorem snew_c7 (L : Nat) (s : ByteArray) (l : Led) (w : World) (hs : s.size ≤ 9223372036854775807) (hL : LedAt w L l) : Calls Try.prog 26 #[.pointer (some ⟨L, 0, none⟩), .string s] w fun e w' =>
      ∃ X, e = .returned (.tuple #[.pointer (some ⟨X, 0, none⟩), .int .i64 0]) ∧ Pair w' X ⟨L, s, 0, s.size, 0⟩ l ∧ w.heap.size ≤ X ∧ Below w.heap.size w w' :=
  (snew_at L s l w hs hL).mono fun e w' ⟨X, h1, h2, h3, h4⟩ => ⟨X, h1, h2, h3, chg_none h4⟩
theorem conv18 (w : World) (B : Nat) {T : TypeId} (h : Obj1 w B #[.int .u8 0, .int .u8 0, .int .u8 0, .int .u8 0, .int .u8 0, .int .u8 0, .int .u8 0, .int .u8 0, .int .u8 0, .int .u8 0, .int .u8 0, .int .u8 0, .int .u8 0, .int .u8 0, .int .u8 0, .int .u8 0, .int .u8 0, .int .u8 0] T) : (convert 100 9 (.slice (some ⟨B, 0, none⟩) 18 18)).run Try.prog w = .ok (.string z18) w :=
  conv_str w B 18 18 (List.replicate 18 0) rfl (Obj1.range0 (cs := (List.replicate 18 0).map (Value.int .u8)) h) _ _ _ Try.underlying100 Try.underlying5 Try.underlying9
theorem tr18 (L : Nat) : tRead ⟨L, z18, 0, 18, 0⟩ (Led.new 0 0 0 9) = (zero12, [.int .i64 3, .int .i64 2, .int .i64 2]) := by kernel_rfl
set_option maxRecDepth 100000 in
set_option maxHeartbeats 4000000 in
theorem awake16 (w : World) : Calls Try.prog 25 #[] w fun e w' => e = .returned (.bool true) ∧ Below w.heap.size w w' := by
  have HN := Lib.hid (fun w0 => lnew_k 9 w0 (Or.inl rfl))
  go_enter Try.func25, Try.ntmps25
  go_upto_region 1 with (fail)
  go_cut [1, 2] from 5 to 12 (fun c1 c2 wx => ∃ X L, c1 = .pointer (some ⟨X, 0, none⟩) ∧ c2 = .int .i64 0 ∧ Pair wx X ⟨L, z18, 0, 18, 0⟩ (Led.new 0 0 0 9) ∧ w.heap.size ≤ X ∧ w.heap.size ≤ L ∧ Below w.heap.size w wx)
  case first =>
    refine wp_region_noPanic ?_
    refine wp_region_held_drew (S := fun w' => True) (by kernel_rfl) trivial (fun hHeld => ?_)
    refine wpAnyH_take (i := 0) (v := .agg #[.int .i64 0, .int .i64 0, .int .i64 0, .int .i64 9]) rfl (by kernel_rfl) (by kernel_rfl) (by kernel_rfl) (fun _ _ _ h => h) (Or.inl ⟨by rfl, fun w hS => by go_simp⟩) hHeld ?_
    simp only [Act.put, List.setIfInBounds_toArray, List.set_cons_zero, List.set_cons_succ, List.getElem_toArray, List.getElem_cons_zero, List.getElem_cons_succ]
    have BW := Lib.hid (Below.refl w.heap.size w).drew
    have sz0 : w.heap.size ≤ w.drew.heap.size := Nat.le_refl _
    generalize w.drew = wA at BW sz0 ⊢
    refine wpAnyH_ready (rs := [1, 2]) (by kernel_rfl) (by simp) ?_
    refine AllReadyH.cons (o := _) rfl (fun K' hK => ?_) (AllReadyH.cons (o := _) rfl (fun K' hK => ?_) AllReadyH.nil)
    · skip
      go_simp
      refine (HN.out _).mono ?_
      rintro e w2 ⟨L, rfl, hL, hsL, hC⟩
      have LA := Lib.hid hL
      have lL := hL.lt
      have szL := hC.size
      have BW := Lib.hid (BW.out.trans ((chg_none hC).mono BW.out.size))
      have hwL : w.heap.size ≤ L := by omega
      clear hL hC
      go_wp2_with fail
      try (have wA := w2)
      obtain ⟨wA, rfl⟩ : ∃ z, z = w2 := ⟨_, rfl⟩
      refine hK _ _ trivial (fun hH1 => ?_)
      clear hK K'
      try simp only [Act.put, List.setIfInBounds_toArray, List.set_cons_zero, List.set_cons_succ, List.getElem_toArray, List.getElem_cons_zero, List.getElem_cons_succ]
      refine wpAnyH_ready (rs := [2]) (by kernel_rfl) (by simp) ?_
      refine AllReadyH.cons (o := _) rfl (fun K' hK => ?_) AllReadyH.nil
      · skip
        go_simp
        rw [mk18]
        try go_simp
        have CS := Lib.hid (obj1_new wA #[.int .u8 0, .int .u8 0, .int .u8 0, .int .u8 0, .int .u8 0, .int .u8 0, .int .u8 0, .int .u8 0, .int .u8 0, .int .u8 0, .int .u8 0, .int .u8 0, .int .u8 0, .int .u8 0, .int .u8 0, .int .u8 0, .int .u8 0, .int .u8 0] 5)
        have szS : (wA.alloc (.cells #[.int .u8 0, .int .u8 0, .int .u8 0, .int .u8 0, .int .u8 0, .int .u8 0, .int .u8 0, .int .u8 0, .int .u8 0, .int .u8 0, .int .u8 0, .int .u8 0, .int .u8 0, .int .u8 0, .int .u8 0, .int .u8 0, .int .u8 0, .int .u8 0] 5)).heap.size = wA.heap.size + 1 := by simp
        have LA := Lib.hid (show LedAt (wA.alloc (.cells #[.int .u8 0, .int .u8 0, .int .u8 0, .int .u8 0, .int .u8 0, .int .u8 0, .int .u8 0, .int .u8 0, .int .u8 0, .int .u8 0, .int .u8 0, .int .u8 0, .int .u8 0, .int .u8 0, .int .u8 0, .int .u8 0, .int .u8 0, .int .u8 0] 5)) L _ from ⟨LA.out.obj.alloc _, LA.out.ok⟩)
        have BW := Lib.hid (BW.out.alloc BW.out.size (.cells #[.int .u8 0, .int .u8 0, .int .u8 0, .int .u8 0, .int .u8 0, .int .u8 0, .int .u8 0, .int .u8 0, .int .u8 0, .int .u8 0, .int .u8 0, .int .u8 0, .int .u8 0, .int .u8 0, .int .u8 0, .int .u8 0, .int .u8 0, .int .u8 0] 5))
        obtain ⟨SB, hSB⟩ : ∃ b, wA.heap.size = b := ⟨_, rfl⟩
        rw [hSB] at CS szS ⊢
        generalize World.alloc _ _ = wZ at CS BW szS LA ⊢
        obtain ⟨wA, rfl⟩ : ∃ z, z = wZ := ⟨_, rfl⟩
        refine hK _ _ trivial (fun hH2 => ?_)
        clear hK K'
        try simp only [Act.put, List.setIfInBounds_toArray, List.set_cons_zero, List.set_cons_succ, List.getElem_toArray, List.getElem_cons_zero, List.getElem_cons_succ]
        refine wpAnyH_ready (rs := [3]) (by kernel_rfl) (by simp) ?_
        refine AllReadyH.cons (o := _) rfl (fun K' hK => ?_) AllReadyH.nil
        · skip
          go_simp; rw [conv18 _ SB CS.out]
          try go_simp
          refine hK _ _ trivial (fun hH3 => ?_)
          clear hK K'
          try simp only [Act.put, List.setIfInBounds_toArray, List.set_cons_zero, List.set_cons_succ, List.getElem_toArray, List.getElem_cons_zero, List.getElem_cons_succ]
          refine wpAnyH_ready (rs := [4]) (by kernel_rfl) (by simp) ?_
          refine AllReadyH.cons (o := _) rfl (fun K' hK => ?_) AllReadyH.nil
          go_simp
          refine (snew_c7 L z18 _ _ (by decide) LA.out).mono ?_
          rintro e w3 ⟨X, rfl, hP, hsX, hB⟩
          have PX := Lib.hid hP
          have BW3 := Lib.hid (BW.out.trans (hB.mono BW.out.size))
          have szX := BW.out.size
          clear hP hB
          go_wp2_with fail
          refine hK _ _ trivial (fun hH4 => ?_)
          clear hK K'
          try simp only [Act.put, List.setIfInBounds_toArray, List.set_cons_zero, List.set_cons_succ, List.getElem_toArray, List.getElem_cons_zero, List.getElem_cons_succ]
          refine wpAnyH_take (i := 5) (v := .tuple #[.pointer (some ⟨X, 0, none⟩), .int .i64 0]) rfl (by kernel_rfl) (by kernel_rfl) (by kernel_rfl) (fun _ _ _ h => h) (Or.inl ⟨by rfl, fun w hS => by go_simp⟩) hH4 ?_
          simp only [Act.put, List.setIfInBounds_toArray, List.set_cons_zero, List.set_cons_succ, List.getElem_toArray, List.getElem_cons_zero, List.getElem_cons_succ]
          refine wpAnyH_take (i := 6) (v := .pointer (some ⟨X, 0, none⟩)) rfl (by kernel_rfl) (by kernel_rfl) (by kernel_rfl) (fun _ _ _ h => h) (Or.inl ⟨by rfl, fun w hS => by go_simp⟩) hH4 ?_
          simp only [Act.put, List.setIfInBounds_toArray, List.set_cons_zero, List.set_cons_succ, List.getElem_toArray, List.getElem_cons_zero, List.getElem_cons_succ]
          refine wpAnyH_take (i := 7) (v := .int .i64 0) rfl (by kernel_rfl) (by kernel_rfl) (by kernel_rfl) (fun _ _ _ h => h) (Or.inl ⟨by rfl, fun w hS => by go_simp⟩) hH4 ?_
          simp only [Act.put, List.setIfInBounds_toArray, List.set_cons_zero, List.set_cons_succ, List.getElem_toArray, List.getElem_cons_zero, List.getElem_cons_succ]
          refine wpAnyH_take (i := 8) (v := .pointer (some ⟨X, 0, none⟩)) rfl (by kernel_rfl) (by kernel_rfl) (by kernel_rfl) (fun _ _ _ h => h) (Or.inl ⟨by rfl, fun w hS => by go_simp⟩) hH4 ?_
          simp only [Act.put, List.setIfInBounds_toArray, List.set_cons_zero, List.set_cons_succ, List.getElem_toArray, List.getElem_cons_zero, List.getElem_cons_succ]
          refine wpAnyH_take (i := 9) (v := .int .i64 0) rfl (by kernel_rfl) (by kernel_rfl) (by kernel_rfl) (fun _ _ _ h => h) (Or.inl ⟨by rfl, fun w hS => by go_simp⟩) hH4 ?_
          simp only [Act.put, List.setIfInBounds_toArray, List.set_cons_zero, List.set_cons_succ, List.getElem_toArray, List.getElem_cons_zero, List.getElem_cons_succ]
          refine wpAnyH_done (by kernel_rfl) ?_ _
          refine NoPanic.normal ?_
          go_wp2_with fail
          go_meet
          exact ⟨X, L, rfl, rfl, PX.out, by omega, hwL, BW3.out⟩
    · skip
      go_simp
      rw [mk18]
      try go_simp
      have CS := Lib.hid (obj1_new wA #[.int .u8 0, .int .u8 0, .int .u8 0, .int .u8 0, .int .u8 0, .int .u8 0, .int .u8 0, .int .u8 0, .int .u8 0, .int .u8 0, .int .u8 0, .int .u8 0, .int .u8 0, .int .u8 0, .int .u8 0, .int .u8 0, .int .u8 0, .int .u8 0] 5)
      have szS : (wA.alloc (.cells #[.int .u8 0, .int .u8 0, .int .u8 0, .int .u8 0, .int .u8 0, .int .u8 0, .int .u8 0, .int .u8 0, .int .u8 0, .int .u8 0, .int .u8 0, .int .u8 0, .int .u8 0, .int .u8 0, .int .u8 0, .int .u8 0, .int .u8 0, .int .u8 0] 5)).heap.size = wA.heap.size + 1 := by simp
      have BW := Lib.hid (BW.out.alloc BW.out.size (.cells #[.int .u8 0, .int .u8 0, .int .u8 0, .int .u8 0, .int .u8 0, .int .u8 0, .int .u8 0, .int .u8 0, .int .u8 0, .int .u8 0, .int .u8 0, .int .u8 0, .int .u8 0, .int .u8 0, .int .u8 0, .int .u8 0, .int .u8 0, .int .u8 0] 5))
      obtain ⟨SB, hSB⟩ : ∃ b, wA.heap.size = b := ⟨_, rfl⟩
      rw [hSB] at CS szS ⊢
      generalize World.alloc _ _ = wZ at CS BW szS ⊢
      obtain ⟨wA, rfl⟩ : ∃ z, z = wZ := ⟨_, rfl⟩
      refine hK _ _ trivial (fun hH5 => ?_)
      clear hK K'
      try simp only [Act.put, List.setIfInBounds_toArray, List.set_cons_zero, List.set_cons_succ, List.getElem_toArray, List.getElem_cons_zero, List.getElem_cons_succ]
      refine wpAnyH_ready (rs := [1, 3]) (by kernel_rfl) (by simp) ?_
      refine AllReadyH.cons (o := _) rfl (fun K' hK => ?_) (AllReadyH.cons (o := _) rfl (fun K' hK => ?_) AllReadyH.nil)
      · skip
        go_simp
        refine (HN.out _).mono ?_
        rintro e w2 ⟨L, rfl, hL, hsL, hC⟩
        have LA := Lib.hid hL
        have lL := hL.lt
        have szL := hC.size
        have CS := Lib.hid (hC.obj CS.out (by simp))
        have BW := Lib.hid (BW.out.trans ((chg_none hC).mono BW.out.size))
        have hwL : w.heap.size ≤ L := by omega
        clear hL hC
        go_wp2_with fail
        try (have wA := w2)
        obtain ⟨wA, rfl⟩ : ∃ z, z = w2 := ⟨_, rfl⟩
        refine hK _ _ trivial (fun hH6 => ?_)
        clear hK K'
        try simp only [Act.put, List.setIfInBounds_toArray, List.set_cons_zero, List.set_cons_succ, List.getElem_toArray, List.getElem_cons_zero, List.getElem_cons_succ]
        refine wpAnyH_ready (rs := [3]) (by kernel_rfl) (by simp) ?_
        refine AllReadyH.cons (o := _) rfl (fun K' hK => ?_) AllReadyH.nil
        · skip
          go_simp; rw [conv18 _ SB CS.out]
          try go_simp
          refine hK _ _ trivial (fun hH7 => ?_)
          clear hK K'
          try simp only [Act.put, List.setIfInBounds_toArray, List.set_cons_zero, List.set_cons_succ, List.getElem_toArray, List.getElem_cons_zero, List.getElem_cons_succ]
          refine wpAnyH_ready (rs := [4]) (by kernel_rfl) (by simp) ?_
          refine AllReadyH.cons (o := _) rfl (fun K' hK => ?_) AllReadyH.nil
          go_simp
          refine (snew_c7 L z18 _ _ (by decide) LA.out).mono ?_
          rintro e w3 ⟨X, rfl, hP, hsX, hB⟩
          have PX := Lib.hid hP
          have BW3 := Lib.hid (BW.out.trans (hB.mono BW.out.size))
          have szX := BW.out.size
          clear hP hB
          go_wp2_with fail
          refine hK _ _ trivial (fun hH8 => ?_)
          clear hK K'
          try simp only [Act.put, List.setIfInBounds_toArray, List.set_cons_zero, List.set_cons_succ, List.getElem_toArray, List.getElem_cons_zero, List.getElem_cons_succ]
          refine wpAnyH_take (i := 5) (v := .tuple #[.pointer (some ⟨X, 0, none⟩), .int .i64 0]) rfl (by kernel_rfl) (by kernel_rfl) (by kernel_rfl) (fun _ _ _ h => h) (Or.inl ⟨by rfl, fun w hS => by go_simp⟩) hH8 ?_
          simp only [Act.put, List.setIfInBounds_toArray, List.set_cons_zero, List.set_cons_succ, List.getElem_toArray, List.getElem_cons_zero, List.getElem_cons_succ]
          refine wpAnyH_take (i := 6) (v := .pointer (some ⟨X, 0, none⟩)) rfl (by kernel_rfl) (by kernel_rfl) (by kernel_rfl) (fun _ _ _ h => h) (Or.inl ⟨by rfl, fun w hS => by go_simp⟩) hH8 ?_
          simp only [Act.put, List.setIfInBounds_toArray, List.set_cons_zero, List.set_cons_succ, List.getElem_toArray, List.getElem_cons_zero, List.getElem_cons_succ]
          refine wpAnyH_take (i := 7) (v := .int .i64 0) rfl (by kernel_rfl) (by kernel_rfl) (by kernel_rfl) (fun _ _ _ h => h) (Or.inl ⟨by rfl, fun w hS => by go_simp⟩) hH8 ?_
          simp only [Act.put, List.setIfInBounds_toArray, List.set_cons_zero, List.set_cons_succ, List.getElem_toArray, List.getElem_cons_zero, List.getElem_cons_succ]
          refine wpAnyH_take (i := 8) (v := .pointer (some ⟨X, 0, none⟩)) rfl (by kernel_rfl) (by kernel_rfl) (by kernel_rfl) (fun _ _ _ h => h) (Or.inl ⟨by rfl, fun w hS => by go_simp⟩) hH8 ?_
          simp only [Act.put, List.setIfInBounds_toArray, List.set_cons_zero, List.set_cons_succ, List.getElem_toArray, List.getElem_cons_zero, List.getElem_cons_succ]
          refine wpAnyH_take (i := 9) (v := .int .i64 0) rfl (by kernel_rfl) (by kernel_rfl) (by kernel_rfl) (fun _ _ _ h => h) (Or.inl ⟨by rfl, fun w hS => by go_simp⟩) hH8 ?_
          simp only [Act.put, List.setIfInBounds_toArray, List.set_cons_zero, List.set_cons_succ, List.getElem_toArray, List.getElem_cons_zero, List.getElem_cons_succ]
          refine wpAnyH_done (by kernel_rfl) ?_ _
          refine NoPanic.normal ?_
          go_wp2_with fail
          go_meet
          exact ⟨X, L, rfl, rfl, PX.out, by omega, hwL, BW3.out⟩
      · skip
        go_simp; rw [conv18 _ SB CS.out]
        try go_simp
        refine hK _ _ trivial (fun hH9 => ?_)
        clear hK K'
        try simp only [Act.put, List.setIfInBounds_toArray, List.set_cons_zero, List.set_cons_succ, List.getElem_toArray, List.getElem_cons_zero, List.getElem_cons_succ]
        refine wpAnyH_ready (rs := [1]) (by kernel_rfl) (by simp) ?_
        refine AllReadyH.cons (o := _) rfl (fun K' hK => ?_) AllReadyH.nil
        · skip
          go_simp
          refine (HN.out _).mono ?_
          rintro e w2 ⟨L, rfl, hL, hsL, hC⟩
          have LA := Lib.hid hL
          have lL := hL.lt
          have szL := hC.size
          have CS := Lib.hid (hC.obj CS.out (by simp))
          have BW := Lib.hid (BW.out.trans ((chg_none hC).mono BW.out.size))
          have hwL : w.heap.size ≤ L := by omega
          clear hL hC
          go_wp2_with fail
          try (have wA := w2)
          obtain ⟨wA, rfl⟩ : ∃ z, z = w2 := ⟨_, rfl⟩
          refine hK _ _ trivial (fun hH10 => ?_)
          clear hK K'
          try simp only [Act.put, List.setIfInBounds_toArray, List.set_cons_zero, List.set_cons_succ, List.getElem_toArray, List.getElem_cons_zero, List.getElem_cons_succ]
          refine wpAnyH_ready (rs := [4]) (by kernel_rfl) (by simp) ?_
          refine AllReadyH.cons (o := _) rfl (fun K' hK => ?_) AllReadyH.nil
          go_simp
          refine (snew_c7 L z18 _ _ (by decide) LA.out).mono ?_
          rintro e w3 ⟨X, rfl, hP, hsX, hB⟩
          have PX := Lib.hid hP
          have BW3 := Lib.hid (BW.out.trans (hB.mono BW.out.size))
          have szX := BW.out.size
          clear hP hB
          go_wp2_with fail
          refine hK _ _ trivial (fun hH11 => ?_)
          clear hK K'
          try simp only [Act.put, List.setIfInBounds_toArray, List.set_cons_zero, List.set_cons_succ, List.getElem_toArray, List.getElem_cons_zero, List.getElem_cons_succ]
          refine wpAnyH_take (i := 5) (v := .tuple #[.pointer (some ⟨X, 0, none⟩), .int .i64 0]) rfl (by kernel_rfl) (by kernel_rfl) (by kernel_rfl) (fun _ _ _ h => h) (Or.inl ⟨by rfl, fun w hS => by go_simp⟩) hH11 ?_
          simp only [Act.put, List.setIfInBounds_toArray, List.set_cons_zero, List.set_cons_succ, List.getElem_toArray, List.getElem_cons_zero, List.getElem_cons_succ]
          refine wpAnyH_take (i := 6) (v := .pointer (some ⟨X, 0, none⟩)) rfl (by kernel_rfl) (by kernel_rfl) (by kernel_rfl) (fun _ _ _ h => h) (Or.inl ⟨by rfl, fun w hS => by go_simp⟩) hH11 ?_
          simp only [Act.put, List.setIfInBounds_toArray, List.set_cons_zero, List.set_cons_succ, List.getElem_toArray, List.getElem_cons_zero, List.getElem_cons_succ]
          refine wpAnyH_take (i := 7) (v := .int .i64 0) rfl (by kernel_rfl) (by kernel_rfl) (by kernel_rfl) (fun _ _ _ h => h) (Or.inl ⟨by rfl, fun w hS => by go_simp⟩) hH11 ?_
          simp only [Act.put, List.setIfInBounds_toArray, List.set_cons_zero, List.set_cons_succ, List.getElem_toArray, List.getElem_cons_zero, List.getElem_cons_succ]
          refine wpAnyH_take (i := 8) (v := .pointer (some ⟨X, 0, none⟩)) rfl (by kernel_rfl) (by kernel_rfl) (by kernel_rfl) (fun _ _ _ h => h) (Or.inl ⟨by rfl, fun w hS => by go_simp⟩) hH11 ?_
          simp only [Act.put, List.setIfInBounds_toArray, List.set_cons_zero, List.set_cons_succ, List.getElem_toArray, List.getElem_cons_zero, List.getElem_cons_succ]
          refine wpAnyH_take (i := 9) (v := .int .i64 0) rfl (by kernel_rfl) (by kernel_rfl) (by kernel_rfl) (fun _ _ _ h => h) (Or.inl ⟨by rfl, fun w hS => by go_simp⟩) hH11 ?_
          simp only [Act.put, List.setIfInBounds_toArray, List.set_cons_zero, List.set_cons_succ, List.getElem_toArray, List.getElem_cons_zero, List.getElem_cons_succ]
          refine wpAnyH_done (by kernel_rfl) ?_ _
          refine NoPanic.normal ?_
          go_wp2_with fail
          go_meet
          exact ⟨X, L, rfl, rfl, PX.out, by omega, hwL, BW3.out⟩
  case rest =>
  obtain ⟨X, L, rfl, rfl, PX, hX, hL, hB⟩ := hcut
  have HR := Lib.hid (fun w0 hp => (tread_any X ⟨L, z18, 0, 18, 0⟩ (Led.new 0 0 0 9) w0 hp).mono (R' := fun e w' => e = .returned (.tuple #[.agg #[.int .i64 0, .bool false, .int .i64 0, .int .i64 0, .int .i64 0, .int .i64 0, .int .i64 0, .int .i64 0, .int .i64 0, .int .i64 0, .bool false, .bool false], .agg #[.int .i64 3, .int .i64 2, .int .i64 2]]) ∧ Chg (two X ⟨L, z18, 0, 18, 0⟩) w0 w') fun e w' hh => ⟨hh.1.trans (by rw [tr18]; rfl), hh.2.2⟩)
  have PX := Lib.hid PX
  have HB := Lib.hid hB
  clear hB HN
  go_wp2_with fail
  refine (HR.out _ PX.out).mono ?_
  rintro e w2 ⟨rfl, hC⟩
  have HB2 := Lib.hid (chg_two HB.out hC hX hL)
  clear hC HR PX
  go_wp2_with fail
  go_ret
  exact ⟨rfl, (HB2.out.alloc HB2.out.size _).alloc (Nat.le_trans HB2.out.size (by simp)) _⟩
end Go.Proofs.Ytomikbecbbjhoaa

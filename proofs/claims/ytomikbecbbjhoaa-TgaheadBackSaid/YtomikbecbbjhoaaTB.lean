/- The law TgaheadBytes, walked. -/
import Derived.Test.YtomikbecbbjhoaaTA
import Derived.Test.YtomikbecbbjhoaaT9
namespace Go.Proofs.Ytomikbecbbjhoaa
open Go.RowKit
set_option linter.unusedVariables false
set_option linter.unusedSimpArgs false
theorem good_res (s : ByteArray) (h : s.size = 18) (hf : (chkS s).first = none) : rRes16 s = rHead16 s := by
  unfold rRes16; rw [if_neg (by omega), hf]
set_option maxRecDepth 100000 in
set_option maxHeartbeats 8000000 in
theorem tbytes_law (a0 a2 a3 a4 a5 a6 a7 a8 a9 : Int) (mp lf tp : Bool) (w : World) : Calls Try.prog 7 #[.agg #[.int .i64 a0, .bool mp, .int .i64 a2, .int .i64 a3, .int .i64 a4, .int .i64 a5, .int .i64 a6, .int .i64 a7, .int .i64 a8, .int .i64 a9, .bool lf, .bool tp]] w (Yes16 w) := by
  have HT := Lib.hid (fun w0 => tbytes_any a0 a2 a3 a4 a5 a6 a7 a8 a9 mp lf tp w0)
  obtain ⟨s, hs⟩ : ∃ s, strOf (bytesL a0 mp a2 a3 a4 a5 a6 a7 a8 a9 lf tp) = s := ⟨_, rfl⟩
  have h18 : s.size = 18 := by rw [← hs]; exact strOf_size _ rfl
  have d18 : (s.size : Int) = 18 := by omega
  rw [hs] at HT
  have HPK := Lib.hid (fun w0 => packed_any a2 w0)
  obtain ⟨pk, hpk⟩ : ∃ b, packB a2 = b := ⟨_, rfl⟩
  rw [hpk] at HPK
  have HCASE : (a2 = 9 ∧ pk = true) ∨ (a2 = 10 ∧ pk = true) ∨ (a2 = 11 ∧ pk = true) ∨ ((a2 == 9) = false ∧ (a2 == 10) = false ∧ (a2 == 11) = false ∧ pk = false) := by
    by_cases e9 : a2 = 9
    · exact Or.inl ⟨e9, by rw [← hpk, e9]; rfl⟩
    by_cases e10 : a2 = 10
    · exact Or.inr (Or.inl ⟨e10, by rw [← hpk, e10]; rfl⟩)
    by_cases e11 : a2 = 11
    · exact Or.inr (Or.inr (Or.inl ⟨e11, by rw [← hpk, e11]; rfl⟩))
    · exact Or.inr (Or.inr (Or.inr ⟨by simpa using e9, by simpa using e10, by simpa using e11, by rw [← hpk]; unfold packB; simp; omega⟩))
  have HCASE := Lib.hid HCASE
  clear hs hpk
  go_enter Try.func7, Try.ntmps7
  go_upto_region 1 with (fail)
  have OH := Lib.hid (obj1_new w #[.int .i64 a0, .bool mp, .int .i64 a2, .int .i64 a3, .int .i64 a4, .int .i64 a5, .int .i64 a6, .int .i64 a7, .int .i64 a8, .int .i64 a9, .bool lf, .bool tp] 44)
  have BW := Lib.hid ((Below.refl w.heap.size w).alloc (Nat.le_refl _) (.cells #[.int .i64 a0, .bool mp, .int .i64 a2, .int .i64 a3, .int .i64 a4, .int .i64 a5, .int .i64 a6, .int .i64 a7, .int .i64 a8, .int .i64 a9, .bool lf, .bool tp] 44))
  generalize World.alloc _ _ = w1 at OH BW ⊢
  obtain ⟨HB, hHB⟩ : ∃ b, w.heap.size = b := ⟨_, rfl⟩
  rw [hHB] at OH ⊢
  go_wp2_with (refine load_o rfl 44 12 _ rfl HB [.int .i64 a0, .bool mp, .int .i64 a2, .int .i64 a3, .int .i64 a4, .int .i64 a5, .int .i64 a6, .int .i64 a7, .int .i64 a8, .int .i64 a9, .bool lf, .bool tp] rfl (by kernel_rfl) OH.out Try.underlying44 rfl (by kernel_rfl) ?_)
  refine (HT.out _).mono ?_
  rintro e w2 ⟨hb, hpost⟩
  have OH := Lib.hid (OH.out.below hb OH.out.lt); have BW := Lib.hid (bthen hb BW.out BW.out.size); clear hb
  have HPOST := Lib.hid hpost
  clear hpost
  have HGO := fun (Q : Prop) => Q
  clear HGO
  rcases HPOST.out with ⟨rfl, hf, hh⟩ | ⟨rfl, -⟩
  · have HRR := Lib.hid (fun w0 => (rread16_any s w0 (by omega)).mono (R' := RA w0 (rHead16 s)) fun e w' hh2 => ⟨hh2.1.trans (by rw [good_res s h18 hf]), hh2.2⟩)
    have HSM := Lib.hid (fun w0 => hh ▸ same_hr s w0)
    clear hf hh HT HPOST
    go_upto_region 2 with (fail)
    go_cut [26] from 10 to 26 (fun c wx => c = .bool false ∧ Obj1 wx HB #[.int .i64 a0, .bool mp, .int .i64 a2, .int .i64 a3, .int .i64 a4, .int .i64 a5, .int .i64 a6, .int .i64 a7, .int .i64 a8, .int .i64 a9, .bool lf, .bool tp] 44 ∧ Below w.heap.size w wx)
    case first =>
      have c2 : w2.cell? ⟨HB, 2, none⟩ = some (.int .i64 a2) := OH.out.cell 2
      rcases HCASE.out with ⟨h, rfl⟩ | ⟨h, rfl⟩ | ⟨h, rfl⟩ | ⟨h1, h2, h3, rfl⟩
      all_goals try subst h
      all_goals go_quiet ((go_at_call 36; exact Calls.quiet_of_same (HPK.out _)))
      all_goals go_wp2_with fail
      all_goals go_meet
      all_goals exact ⟨rfl, OH.out.drewN _, bdrew BW.out _⟩
    case rest =>
    clear OH BW
    obtain ⟨rfl, OH, BW⟩ := hcut
    have OH := Lib.hid OH
    have BW := Lib.hid BW
    go_upto_region 6 with (fail)
    refine wp_region_noPanic ?_
    refine wp_region_held_drew (S := fun w' => w'.rangeAt HB 0 [.int .i64 a0, .bool mp, .int .i64 a2, .int .i64 a3, .int .i64 a4, .int .i64 a5, .int .i64 a6, .int .i64 a7, .int .i64 a8, .int .i64 a9, .bool lf, .bool tp]) (by kernel_rfl) OH.out.drew.range0 (fun hHeld => ?_)
    have OH := Lib.hid OH.out.drew
    have BW := Lib.hid BW.out.drew
    refine wpAnyH_take (i := 0) (v := .string s) rfl (by kernel_rfl) (by kernel_rfl) (by kernel_rfl) (fun _ _ _ h => h) (Or.inl ⟨by rfl, fun w hS => by go_simp⟩) hHeld ?_
    simp only [Act.put, List.setIfInBounds_toArray, List.set_cons_zero, List.set_cons_succ, List.getElem_toArray, List.getElem_cons_zero, List.getElem_cons_succ]
    refine wpAnyH_take (i := 1) (v := .int .i64 18) rfl (by kernel_rfl) (by kernel_rfl) (by kernel_rfl) (fun _ _ _ h => h) (Or.inl ⟨by rfl, fun w hS => by (go_simp <;> exact d18)⟩) hHeld ?_
    simp only [Act.put, List.setIfInBounds_toArray, List.set_cons_zero, List.set_cons_succ, List.getElem_toArray, List.getElem_cons_zero, List.getElem_cons_succ]
    refine wpAnyH_take (i := 2) (v := .bool true) rfl (by kernel_rfl) (by kernel_rfl) (by kernel_rfl) (fun _ _ _ h => h) (Or.inl ⟨by rfl, fun w hS => by go_simp⟩) hHeld ?_
    simp only [Act.put, List.setIfInBounds_toArray, List.set_cons_zero, List.set_cons_succ, List.getElem_toArray, List.getElem_cons_zero, List.getElem_cons_succ]
    refine wpAnyH_take (i := 3) (v := .bool true) rfl (by kernel_rfl) (by kernel_rfl) (by kernel_rfl) (fun _ _ _ h => h) (Or.inl ⟨by rfl, fun w hS => by go_simp⟩) hHeld ?_
    simp only [Act.put, List.setIfInBounds_toArray, List.set_cons_zero, List.set_cons_succ, List.getElem_toArray, List.getElem_cons_zero, List.getElem_cons_succ]
    refine wpAnyH_take (i := 4) (v := .string s) rfl (by kernel_rfl) (by kernel_rfl) (by kernel_rfl) (fun _ _ _ h => h) (Or.inl ⟨by rfl, fun w hS => by go_simp⟩) hHeld ?_
    simp only [Act.put, List.setIfInBounds_toArray, List.set_cons_zero, List.set_cons_succ, List.getElem_toArray, List.getElem_cons_zero, List.getElem_cons_succ]
    refine wpAnyH_ready (rs := [5]) (by kernel_rfl) (by simp) ?_
    refine AllReadyH.cons (o := _) rfl (fun K' hK => ?_) AllReadyH.nil
    go_simp
    refine (HRR.out _).mono ?_
    rintro e w5 ⟨rfl, hb⟩
    have OH := Lib.hid (OH.out.below hb OH.out.lt); have BW := Lib.hid (bthen hb BW.out BW.out.size); clear hb
    go_wp2_with fail
    refine hK _ _ OH.out.range0 (fun hH1 => ?_)
    clear hK K'
    try simp only [Act.put, List.setIfInBounds_toArray, List.set_cons_zero, List.set_cons_succ, List.getElem_toArray, List.getElem_cons_zero, List.getElem_cons_succ]
    refine wpAnyH_take (i := 6) (v := .int .i64 0) rfl (by kernel_rfl) (by kernel_rfl) (by kernel_rfl) (fun _ _ _ h => h) (Or.inl ⟨by rfl, fun w hS => by first | (go_simp; done) | rfl⟩) hH1 ?_
    simp only [Act.put, List.setIfInBounds_toArray, List.set_cons_zero, List.set_cons_succ, List.getElem_toArray, List.getElem_cons_zero, List.getElem_cons_succ]
    refine wpAnyH_take (i := 7) (v := .bool true) rfl (by kernel_rfl) (by kernel_rfl) (by kernel_rfl) (fun _ _ _ h => h) (Or.inl ⟨by rfl, fun w hS => by go_simp⟩) hH1 ?_
    simp only [Act.put, List.setIfInBounds_toArray, List.set_cons_zero, List.set_cons_succ, List.getElem_toArray, List.getElem_cons_zero, List.getElem_cons_succ]
    refine wpAnyH_take (i := 8) (v := .bool true) rfl (by kernel_rfl) (by kernel_rfl) (by kernel_rfl) (fun _ _ _ h => h) (Or.inl ⟨by rfl, fun w hS => by go_simp⟩) hH1 ?_
    simp only [Act.put, List.setIfInBounds_toArray, List.set_cons_zero, List.set_cons_succ, List.getElem_toArray, List.getElem_cons_zero, List.getElem_cons_succ]
    refine wpAnyH_take (i := 9) (v := .bool true) rfl (by kernel_rfl) (by kernel_rfl) (by kernel_rfl) (fun _ _ _ h => h) (Or.inl ⟨by rfl, fun w hS => by go_simp⟩) hH1 ?_
    simp only [Act.put, List.setIfInBounds_toArray, List.set_cons_zero, List.set_cons_succ, List.getElem_toArray, List.getElem_cons_zero, List.getElem_cons_succ]
    refine wpAnyH_take (i := 10) rfl (by kernel_rfl) (by kernel_rfl) (by kernel_rfl) (fun _ _ _ h => h) (yieldsIf_load_mid (by rfl) 44 _ rfl HB 0 rfl [.int .i64 a0, .bool mp, .int .i64 a2, .int .i64 a3, .int .i64 a4, .int .i64 a5, .int .i64 a6, .int .i64 a7, .int .i64 a8, .int .i64 a9, .bool lf, .bool tp] _ (fun _ h => h) Try.underlying44 rfl (by kernel_rfl)) hH1 ?_
    simp only [Act.put, List.setIfInBounds_toArray, List.set_cons_zero, List.set_cons_succ, List.getElem_toArray, List.getElem_cons_zero, List.getElem_cons_succ]
    refine wpAnyH_take (i := 11) (v := .string s) rfl (by kernel_rfl) (by kernel_rfl) (by kernel_rfl) (fun _ _ _ h => h) (Or.inl ⟨by rfl, fun w hS => by go_simp⟩) hH1 ?_
    simp only [Act.put, List.setIfInBounds_toArray, List.set_cons_zero, List.set_cons_succ, List.getElem_toArray, List.getElem_cons_zero, List.getElem_cons_succ]
    refine wpAnyH_ready (rs := [12]) (by kernel_rfl) (by simp) ?_
    refine AllReadyH.cons (o := _) rfl (fun K' hK => ?_) AllReadyH.nil
    go_simp
    refine (HRR.out _).mono ?_
    rintro e w5 ⟨rfl, hb⟩
    have OH := Lib.hid (OH.out.below hb OH.out.lt); have BW := Lib.hid (bthen hb BW.out BW.out.size); clear hb
    go_wp2_with fail
    refine hK _ _ OH.out.range0 (fun hH2 => ?_)
    clear hK K'
    try simp only [Act.put, List.setIfInBounds_toArray, List.set_cons_zero, List.set_cons_succ, List.getElem_toArray, List.getElem_cons_zero, List.getElem_cons_succ]
    refine wpAnyH_ready (rs := [13]) (by kernel_rfl) (by simp) ?_
    refine AllReadyH.cons (o := _) rfl (fun K' hK => ?_) AllReadyH.nil
    go_simp
    refine (HSM.out _).mono ?_
    rintro e w5 ⟨rfl, hb⟩
    have OH := Lib.hid (OH.out.below hb OH.out.lt); have BW := Lib.hid (bthen hb BW.out BW.out.size); clear hb
    go_wp2_with fail
    refine hK _ _ OH.out.range0 (fun hH3 => ?_)
    clear hK K'
    try simp only [Act.put, List.setIfInBounds_toArray, List.set_cons_zero, List.set_cons_succ, List.getElem_toArray, List.getElem_cons_zero, List.getElem_cons_succ]
    refine wpAnyH_take (i := 14) (v := .bool true) rfl (by kernel_rfl) (by kernel_rfl) (by kernel_rfl) (fun _ _ _ h => h) (Or.inl ⟨by rfl, fun w hS => by go_simp⟩) hH3 ?_
    simp only [Act.put, List.setIfInBounds_toArray, List.set_cons_zero, List.set_cons_succ, List.getElem_toArray, List.getElem_cons_zero, List.getElem_cons_succ]
    refine wpAnyH_take (i := 15) (v := .bool true) rfl (by kernel_rfl) (by kernel_rfl) (by kernel_rfl) (fun _ _ _ h => h) (Or.inl ⟨by rfl, fun w hS => by go_simp⟩) hH3 ?_
    simp only [Act.put, List.setIfInBounds_toArray, List.set_cons_zero, List.set_cons_succ, List.getElem_toArray, List.getElem_cons_zero, List.getElem_cons_succ]
    refine wpAnyH_ready (rs := [16]) (by kernel_rfl) (by simp) ?_
    refine AllReadyH.cons (o := _) rfl (fun K' hK => ?_) AllReadyH.nil
    go_simp
    refine (awake16 _).mono ?_
    rintro e w5 ⟨rfl, hb⟩
    have OH := Lib.hid (OH.out.below hb OH.out.lt); have BW := Lib.hid (bthen hb BW.out BW.out.size); clear hb
    go_wp2_with fail
    refine hK _ _ OH.out.range0 (fun hH4 => ?_)
    clear hK K'
    try simp only [Act.put, List.setIfInBounds_toArray, List.set_cons_zero, List.set_cons_succ, List.getElem_toArray, List.getElem_cons_zero, List.getElem_cons_succ]
    refine wpAnyH_take (i := 17) (v := .bool true) rfl (by kernel_rfl) (by kernel_rfl) (by kernel_rfl) (fun _ _ _ h => h) (Or.inl ⟨by rfl, fun w hS => by go_simp⟩) hH4 ?_
    simp only [Act.put, List.setIfInBounds_toArray, List.set_cons_zero, List.set_cons_succ, List.getElem_toArray, List.getElem_cons_zero, List.getElem_cons_succ]
    refine wpAnyH_take (i := 18) (v := .bool true) rfl (by kernel_rfl) (by kernel_rfl) (by kernel_rfl) (fun _ _ _ h => h) (Or.inl ⟨by rfl, fun w hS => by go_simp⟩) hH4 ?_
    simp only [Act.put, List.setIfInBounds_toArray, List.set_cons_zero, List.set_cons_succ, List.getElem_toArray, List.getElem_cons_zero, List.getElem_cons_succ]
    refine wpAnyH_done (by kernel_rfl) ?_ _
    refine NoPanic.normal ?_
    go_wp2_with fail
    go_ret
    exact ⟨rfl, BW.out⟩
  · clear HT HPOST
    go_upto_region 2 with (fail)
    go_cut [26] from 10 to 26 (fun c wx => c = .bool false ∧ Obj1 wx HB #[.int .i64 a0, .bool mp, .int .i64 a2, .int .i64 a3, .int .i64 a4, .int .i64 a5, .int .i64 a6, .int .i64 a7, .int .i64 a8, .int .i64 a9, .bool lf, .bool tp] 44 ∧ Below w.heap.size w wx)
    case first =>
      have c2 : w2.cell? ⟨HB, 2, none⟩ = some (.int .i64 a2) := OH.out.cell 2
      rcases HCASE.out with ⟨h, rfl⟩ | ⟨h, rfl⟩ | ⟨h, rfl⟩ | ⟨h1, h2, h3, rfl⟩
      all_goals try subst h
      all_goals go_quiet ((go_at_call 36; exact Calls.quiet_of_same (HPK.out _)))
      all_goals go_wp2_with fail
      all_goals go_meet
      all_goals exact ⟨rfl, OH.out.drewN _, bdrew BW.out _⟩
    case rest =>
    clear OH BW
    obtain ⟨rfl, OH, BW⟩ := hcut
    have BW := Lib.hid BW
    go_wp2_with ((go_at_call 25; (with_reducible refine (awake16 _).mono ?_); rintro e w5 ⟨rfl, hb5⟩); have BE := Lib.hid (bthen hb5 BW.out BW.out.size); clear hb5)
    go_ret
    exact ⟨rfl, BE.out⟩
end Go.Proofs.Ytomikbecbbjhoaa

/- The law DibrowSteps, walked. -/
import Derived.Test.YtlfbaggcfaenlaaGreatK37
import Derived.Test.YtlfbaggcfaenlaaGreatK5
import Derived.Test.YtlfbaggcfaenlaaGreatK0
namespace Go.Proofs.YtlfbaggcfaenlaaGreat
open Go.RowKit
set_option linter.unusedVariables false
set_option linter.unusedSimpArgs false
set_option maxRecDepth 100000 in
set_option maxHeartbeats 16000000 in
theorem steps21_long (s : ByteArray) (w : World) (h : 900 < s.size) (hs : s.size ≤ 9223372036854775807) : Calls Tryz.prog 5 #[.string s] w (Yes w) := by
  have HR := Hi (fun w0 => (show Calls Tryz.prog 23 #[.string s, .int .i64 0, .int .i64 s.size] w0 (RA w0 (rRead20 s 0)) from rread20_any s 0 w0 (Nat.zero_le _) (by decide) hs))
  obtain ⟨R, hR⟩ : ∃ R, rRead20 s 0 = R := ⟨_, rfl⟩
  have hn := rRead20_len4 s 0
  rw [hR] at HR hn
  obtain ⟨hn, ho⟩ := hn
  clear hR
  go_enter Tryz.func5, Tryz.ntmps5
  go_wp2_with fail
  with_reducible refine (HR.out _).mono ?_
  rintro e w1 ⟨rfl, hb⟩
  have BL := Hi hb
  have l4 := hb.size
  clear hb
  obtain ⟨d4, hd4⟩ : ∃ d, w1.heap.size = d := ⟨_, rfl⟩
  have O4 := Hi (obj1_new w1 #[.int .i64 0, .int .i64 0, .int .i64 0, .bool false, .int .i64 0, .int .i64 0, .int .i64 0, .int .i64 0, .int .i64 0, .int .i64 0, .int .i64 0, .int .i64 0, .int .i64 0, .int .i64 0, .int .i64 0] 52)
  have BL := Hi (BL.out.alloc BL.out.size (.cells #[.int .i64 0, .int .i64 0, .int .i64 0, .bool false, .int .i64 0, .int .i64 0, .int .i64 0, .int .i64 0, .int .i64 0, .int .i64 0, .int .i64 0, .int .i64 0, .int .i64 0, .int .i64 0, .int .i64 0] 52))
  rw [hd4] at O4 l4
  go_upto_region 2 with (first
    | (refine store_o rfl 52 15 _ _ rfl d4 (R) hn ho (by kernel_rfl) (by kernel_rfl) (by kernel_rfl) O4.out (by first | rfl | simp) ?_; intro ws hst hO; have O4 := Hi hO; have BL := Hi (hst.below BL.out (by omega)); clear hst hO))
  clear hd4
  go_wp2_with fail
  with_reducible refine (awake21 _).mono ?_
  rintro e w10 ⟨rfl, hb⟩
  have BL := Hi (bthen hb BL.out BL.out.size)
  clear hb
  go_wp2_with fail
  go_ret
  exact ⟨rfl, BL.out⟩
set_option maxRecDepth 100000 in
set_option maxHeartbeats 16000000 in
theorem steps21_exit (s : ByteArray) (w : World) (hs : s.size ≤ 900) (sz W Hh : Int) (top : Bool) (dp mt co r g b q fr en k a : Int) (hr : rRead20 s 0 = [.int .i64 sz, .int .i64 W, .int .i64 Hh, .bool top, .int .i64 dp, .int .i64 mt, .int .i64 co, .int .i64 r, .int .i64 g, .int .i64 b, .int .i64 q, .int .i64 fr, .int .i64 en, .int .i64 k, .int .i64 a])
    (hc : k ≠ 0 ∨ (k = 0 ∧ mt = 1) ∨ (k = 0 ∧ mt = 2) ∨ (k = 0 ∧ mt ≠ 1 ∧ mt ≠ 2 ∧ 60 < W) ∨ (k = 0 ∧ mt ≠ 1 ∧ mt ≠ 2 ∧ W ≤ 60 ∧ 60 < Hh)) : Calls Tryz.prog 5 #[.string s] w (Yes w) := by
  have HR := Hi (fun w0 => (show Calls Tryz.prog 23 #[.string s, .int .i64 0, .int .i64 s.size] w0 (RA w0 (rRead20 s 0)) from rread20_any s 0 w0 (Nat.zero_le _) (by decide) (by omega)))
  rw [hr] at HR
  clear hr
  go_enter Tryz.func5, Tryz.ntmps5
  go_wp2_with fail
  with_reducible refine (HR.out _).mono ?_
  rintro e w1 ⟨rfl, hb⟩
  have BL := Hi hb
  have l4 := hb.size
  clear hb
  obtain ⟨d4, hd4⟩ : ∃ d, w1.heap.size = d := ⟨_, rfl⟩
  have O4 := Hi (obj1_new w1 #[.int .i64 0, .int .i64 0, .int .i64 0, .bool false, .int .i64 0, .int .i64 0, .int .i64 0, .int .i64 0, .int .i64 0, .int .i64 0, .int .i64 0, .int .i64 0, .int .i64 0, .int .i64 0, .int .i64 0] 52)
  have BL := Hi (BL.out.alloc BL.out.size (.cells #[.int .i64 0, .int .i64 0, .int .i64 0, .bool false, .int .i64 0, .int .i64 0, .int .i64 0, .int .i64 0, .int .i64 0, .int .i64 0, .int .i64 0, .int .i64 0, .int .i64 0, .int .i64 0, .int .i64 0] 52))
  rw [hd4] at O4 l4
  go_upto_region 2 with (first
    | (refine store_o rfl 52 15 _ _ rfl d4 ([.int .i64 sz, .int .i64 W, .int .i64 Hh, .bool top, .int .i64 dp, .int .i64 mt, .int .i64 co, .int .i64 r, .int .i64 g, .int .i64 b, .int .i64 q, .int .i64 fr, .int .i64 en, .int .i64 k, .int .i64 a]) rfl rfl (by kernel_rfl) (by kernel_rfl) (by kernel_rfl) O4.out (by first | rfl | simp) ?_; intro ws hst hO; have O4 := Hi hO; have BL := Hi (hst.below BL.out (by omega)); clear hst hO))
  clear hd4
  have q13 := (O4.out.cell 13).trans (show _ = some (.int .i64 k) from rfl)
  have q5 := (O4.out.cell 5).trans (show _ = some (.int .i64 mt) from rfl)
  have q1 := (O4.out.cell 1).trans (show _ = some (.int .i64 W) from rfl)
  have q2 := (O4.out.cell 2).trans (show _ = some (.int .i64 Hh) from rfl)
  rcases hc with h | ⟨rfl, h1⟩ | ⟨rfl, h1⟩ | ⟨rfl, h1, h2, h3⟩ | ⟨rfl, h1, h2, h3, h4⟩
  · skip
    go_wp2_with fail
    with_reducible refine (awake21 _).mono ?_
    rintro e w10 ⟨rfl, hb⟩
    have BL := Hi (bthen hb BL.out BL.out.size)
    clear hb
    go_wp2_with fail
    go_ret
    exact ⟨rfl, BL.out⟩
  · subst h1
    go_wp2_with fail
    with_reducible refine (awake21 _).mono ?_
    rintro e w10 ⟨rfl, hb⟩
    have BL := Hi (bthen hb BL.out BL.out.size)
    clear hb
    go_wp2_with fail
    go_ret
    exact ⟨rfl, BL.out⟩
  · subst h1
    go_wp2_with fail
    with_reducible refine (awake21 _).mono ?_
    rintro e w10 ⟨rfl, hb⟩
    have BL := Hi (bthen hb BL.out BL.out.size)
    clear hb
    go_wp2_with fail
    go_ret
    exact ⟨rfl, BL.out⟩
  · skip
    go_wp2_with fail
    with_reducible refine (awake21 _).mono ?_
    rintro e w10 ⟨rfl, hb⟩
    have BL := Hi (bthen hb BL.out BL.out.size)
    clear hb
    go_wp2_with fail
    go_ret
    exact ⟨rfl, BL.out⟩
  · skip
    go_wp2_with fail
    with_reducible refine (awake21 _).mono ?_
    rintro e w10 ⟨rfl, hb⟩
    have BL := Hi (bthen hb BL.out BL.out.size)
    clear hb
    go_wp2_with fail
    go_ret
    exact ⟨rfl, BL.out⟩
set_option maxRecDepth 100000 in
set_option maxHeartbeats 16000000 in
theorem steps21_good (s : ByteArray) (w : World) (hs : s.size ≤ 900) (sz : Int) (W Hh : Nat) (top : Bool) (dp : Nat) (mt : Int) (co : Nat) (r g b q : Int) (en : Nat) (m : Nat → Int) (HH : RowHead s 1 sz W Hh top dp mt co r g b q en m) (hm1 : mt ≠ 1) (hm2 : mt ≠ 2) : Calls Tryz.prog 5 #[.string s] w (Yes w) := by
  obtain ⟨hr, hW1, hW2, hH1, hH2, hco1, hco2, hen, hdk, hp0, hp1, hp2, hp3, hrd⟩ := HH
  have HR := Hi (fun w0 => (show Calls Tryz.prog 23 #[.string s, .int .i64 0, .int .i64 s.size] w0 (RA w0 (rRead20 s 0)) from rread20_any s 0 w0 (Nat.zero_le _) (by decide) (by omega)))
  rw [show rRead20 s 0 = [.int .i64 sz, .int .i64 W, .int .i64 Hh, .bool top, .int .i64 dp, .int .i64 mt, .int .i64 co, .int .i64 r, .int .i64 g, .int .i64 b, .int .i64 q, .int .i64 0, .int .i64 en, .int .i64 0, .int .i64 0] from hr] at HR
  have HRD := Hi hrd
  have HPR := Hi (And.intro hp0 (And.intro hp1 (And.intro hp2 hp3)))
  have HDK := Hi hdk
  obtain ⟨kd, hkd⟩ : ∃ k : Nat, k = if sz = 12 then 3 else 4 := ⟨_, rfl⟩
  have hk34 : kd = 3 ∨ kd = 4 := by rw [hkd]; split <;> simp
  obtain ⟨nb, hnb⟩ : ∃ n, n = kd * co := ⟨_, rfl⟩
  have hnb4 : nb ≤ 1024 := by rw [hnb]; rcases hk34 with h | h <;> rw [h] <;> omega
  have HNB := Hi hnb
  have HKD := Hi hkd
  have HK34 := Hi hk34
  have HB := Hi (And.intro hW1 (And.intro hH1 (And.intro hco1 (And.intro hco2 hen))))
  have HLN := Hi (fun w0 => lnew_any 60 60 20000 100000 w0 (by decide) (by decide))
  clear hr hrd hkd hnb hk34 hW1 hH1 hco1 hco2 hen hp0 hp1 hp2 hp3 hdk
  go_enter Tryz.func5, Tryz.ntmps5
  go_wp2_with fail
  with_reducible refine (HR.out _).mono ?_
  rintro e w1 ⟨rfl, hb⟩
  have BL := Hi hb
  have z0 := hb.size
  clear hb
  obtain ⟨d4, hd4⟩ : ∃ d, w1.heap.size = d := ⟨_, rfl⟩
  have O4 := Hi (obj1_new w1 #[.int .i64 0, .int .i64 0, .int .i64 0, .bool false, .int .i64 0, .int .i64 0, .int .i64 0, .int .i64 0, .int .i64 0, .int .i64 0, .int .i64 0, .int .i64 0, .int .i64 0, .int .i64 0, .int .i64 0] 52)
  have BL := Hi (BL.out.alloc BL.out.size (.cells #[.int .i64 0, .int .i64 0, .int .i64 0, .bool false, .int .i64 0, .int .i64 0, .int .i64 0, .int .i64 0, .int .i64 0, .int .i64 0, .int .i64 0, .int .i64 0, .int .i64 0, .int .i64 0, .int .i64 0] 52))
  rw [hd4] at O4 z0
  go_upto_region 2 with (first
    | (refine store_o rfl 52 15 _ _ rfl d4 ([.int .i64 sz, .int .i64 W, .int .i64 Hh, .bool top, .int .i64 dp, .int .i64 mt, .int .i64 co, .int .i64 r, .int .i64 g, .int .i64 b, .int .i64 q, .int .i64 0, .int .i64 en, .int .i64 0, .int .i64 0]) rfl rfl (by kernel_rfl) (by kernel_rfl) (by kernel_rfl) O4.out (by first | rfl | simp) ?_; intro ws hst hO; have hcs := Stored.chgS (S := fun k => k = d4) hst (Chg.refl _ _) (Or.inl rfl); have O4 := Hi hO; have BL := Hi (BL.out.trans (hcs.below BL.out.size (fun k hk => by rw [hk]; omega))); clear hst hO hcs))
  clear hd4
  have q13 := (O4.out.cell 13).trans (show _ = some (.int .i64 0) from rfl)
  have q5 := (O4.out.cell 5).trans (show _ = some (.int .i64 mt) from rfl)
  have q1 := (O4.out.cell 1).trans (show _ = some (.int .i64 W) from rfl)
  have q2 := (O4.out.cell 2).trans (show _ = some (.int .i64 Hh) from rfl)
  have hg1 : (mt == 1) = false := by rw [beq_eq_false_iff_ne]; exact hm1
  have hg2 : (mt == 2) = false := by rw [beq_eq_false_iff_ne]; exact hm2
  clear hm1 hm2
  go_upto_region 4 with (first
    | ((with_reducible refine skip_g rfl ?_ ?_); rfl; intro _))
  clear q13 q5 q1 q2 hg1 hg2
  go_wp2_with fail
  have ltA := O4.out.lt
  refine (HLN.out _).mono ?_
  rintro e w2 ⟨L, rfl, hL, hLs, hC⟩
  have O4 := Hi (hC.obj O4.out (fun h => h))
  have BL := Hi (BL.out.trans (hC.below BL.out.size (fun _ h => h.elim)))
  have HL := Hi hL
  have lL : d4 < L := by omega
  have lLw : w.heap.size ≤ L := by omega
  clear hLs hC hL ltA
  go_wp2_with fail
  have ltA := HL.out.lt
  refine (snew_any L s _ (by omega) HL.out.lt).mono ?_
  rintro e w3 ⟨X, rfl, hX, hXs, hC⟩
  have O4 := Hi (hC.obj O4.out (fun h => h))
  have HL := Hi (HL.out.chg hC (fun h => h))
  have BL := Hi (BL.out.trans (hC.below BL.out.size (fun _ h => h.elim)))
  have lX : L < X := by omega
  have lXw : w.heap.size ≤ X := by omega
  have PX := Hi (show Pair w3 X ⟨L, s, 0, s.size, 0⟩ (Led.new 60 60 20000 100000) from ⟨hX, HL.out⟩)
  clear hXs hC hX ltA HL
  obtain ⟨l1, hl1, hrd⟩ := HRD.out L X
  have HRD := Hi hrd
  have HL1 := Hi hl1
  clear hrd hl1
  go_upto_region 8 with (fail)
  go_wp2_with fail
  with_reducible refine (HRD.out _ PX.out).mono ?_
  rintro e w4 ⟨rfl, hP, hC⟩
  have hC : Chg (fun k => k = X ∨ k = L) _ _ := hC
  have O4 := Hi (hC.obj O4.out (show ¬ (d4 = X ∨ d4 = L) from by omega))
  have BL := Hi (BL.out.trans (hC.below BL.out.size (fun k hk => by rcases hk with hk | hk <;> (rw [hk]; assumption))))
  have PX := Hi hP
  clear hP hC
  have ltA := PX.out.src.lt
  obtain ⟨d9, hd9⟩ : ∃ d, w4.heap.size = d := ⟨_, rfl⟩
  rw [hd9] at ltA
  have O9 := Hi ((obj1_new w4 #[.int .i64 0, .int .i64 0, .int .i64 0, .bool false, .int .i64 0, .int .i64 0, .int .i64 0, .int .i64 0, .int .i64 0, .int .i64 0, .int .i64 0, .int .i64 0, .int .i64 0, .int .i64 0, .int .i64 0, .int .i64 0] 37).alloc (.cells #[.int .i64 0, .int .i64 0, .int .i64 0] 39))
  have O10 := Hi (obj1_new (w4.alloc (.cells #[.int .i64 0, .int .i64 0, .int .i64 0, .bool false, .int .i64 0, .int .i64 0, .int .i64 0, .int .i64 0, .int .i64 0, .int .i64 0, .int .i64 0, .int .i64 0, .int .i64 0, .int .i64 0, .int .i64 0, .int .i64 0] 37)) #[.int .i64 0, .int .i64 0, .int .i64 0] 39)
  rw [show (w4.alloc (.cells #[.int .i64 0, .int .i64 0, .int .i64 0, .bool false, .int .i64 0, .int .i64 0, .int .i64 0, .int .i64 0, .int .i64 0, .int .i64 0, .int .i64 0, .int .i64 0, .int .i64 0, .int .i64 0, .int .i64 0, .int .i64 0] 37)).heap.size = d9 + 1 by rw [← hd9]; simp] at O10
  rw [hd9] at O9
  have hal := ((Chg.refl (fun _ => False) w4).alloc (.cells #[.int .i64 0, .int .i64 0, .int .i64 0, .bool false, .int .i64 0, .int .i64 0, .int .i64 0, .int .i64 0, .int .i64 0, .int .i64 0, .int .i64 0, .int .i64 0, .int .i64 0, .int .i64 0, .int .i64 0, .int .i64 0] 37)).alloc (.cells #[.int .i64 0, .int .i64 0, .int .i64 0] 39)
  have O4 := Hi (hal.obj O4.out (fun h => h))
  have PX := Hi (show Pair _ X ⟨L, s, 0, s.size, en⟩ l1 from ⟨PX.out.src.chg hal (fun h => h), PX.out.led.chg hal (fun h => h)⟩)
  have BL := Hi (BL.out.trans (hal.below BL.out.size (fun _ h => h.elim)))
  clear hal
  go_upto_region 9 with (first
    | (refine store_o rfl 37 16 _ _ rfl d9 ([.int .i64 sz, .int .i64 W, .int .i64 Hh, .bool top, .int .i64 dp, .int .i64 mt, .int .i64 co, .int .i64 (m 0), .int .i64 (m 1), .int .i64 (m 2), .int .i64 (m 3), .int .i64 (m 4), .int .i64 (m 5), .int .i64 (m 6), .int .i64 (m 7), .int .i64 0]) rfl rfl (by kernel_rfl) (by kernel_rfl) (by kernel_rfl) O9.out (by first | rfl | simp) ?_; intro ws hst hO; have hcs := Stored.chgS (S := fun k => k = d9) hst (Chg.refl _ _) (Or.inl rfl); have O9 := Hi hO; have O4 := Hi (hcs.obj O4.out (show ¬ d4 = d9 by omega)); have PX := Hi (show Pair _ X ⟨L, s, 0, s.size, en⟩ l1 from ⟨PX.out.src.chg hcs (show ¬ X = d9 by omega), PX.out.led.chg hcs (show ¬ L = d9 by omega)⟩); have O10 := Hi (hcs.obj O10.out (show ¬ (d9 + 1) = d9 by omega)); have BL := Hi (BL.out.trans (hcs.below BL.out.size (fun k hk => by rw [hk]; omega))); clear hst hO hcs)
    | (refine store_o rfl 39 3 _ _ rfl (d9 + 1) [.int .i64 0, .int .i64 0, .int .i64 0] rfl rfl (by kernel_rfl) (by kernel_rfl) (by kernel_rfl) O10.out (by first | rfl | simp) ?_; intro ws hst hO; have hcs := Stored.chgS (S := fun k => k = (d9 + 1)) hst (Chg.refl _ _) (Or.inl rfl); have O10 := Hi hO; have O4 := Hi (hcs.obj O4.out (show ¬ d4 = (d9 + 1) by omega)); have PX := Hi (show Pair _ X ⟨L, s, 0, s.size, en⟩ l1 from ⟨PX.out.src.chg hcs (show ¬ X = (d9 + 1) by omega), PX.out.led.chg hcs (show ¬ L = (d9 + 1) by omega)⟩); have O9 := Hi (hcs.obj O9.out (show ¬ d9 = (d9 + 1) by omega)); have BL := Hi (BL.out.trans (hcs.below BL.out.size (fun k hk => by rw [hk]; omega))); clear hst hO hcs))
  clear hd9
  have HTB := Hi (fun w0 (h0 : Pair w0 X ⟨L, s, 0, s.size, en⟩ l1) => (show Calls Tryz.prog 19 #[.pointer (some ⟨X, 0, none⟩), .agg (List.toArray [.int .i64 sz, .int .i64 W, .int .i64 Hh, .bool top, .int .i64 dp, .int .i64 mt, .int .i64 co, .int .i64 (m 0), .int .i64 (m 1), .int .i64 (m 2), .int .i64 (m 3), .int .i64 (m 4), .int .i64 (m 5), .int .i64 (m 6), .int .i64 (m 7), .int .i64 0]), .int .i64 1] w0 (fun e w' => (en + nb ≤ s.size → TabOk w0 X ⟨L, s, 0, s.size, en⟩ l1 kd co dp e w') ∧ (s.size < en + nb → TabNo w0 X ⟨L, s, 0, s.size, en⟩ l1 1 e w')) from by
    have h := table_rich2 sz W Hh top dp mt co (m 0) (m 1) (m 2) (m 3) (m 4) (m 5) (m 6) (m 7) 0 X ⟨L, s, 0, s.size, en⟩ l1 1 kd w0 h0 HB.out.2.2.1 HB.out.2.2.2.1 HKD.out HL1.out.1 (by rw [HL1.out.2.1, HL1.out.2.2.1]; have := HB.out.2.2.2.1; omega) (by have := HL1.out; have := HB.out.2.2.2.1; omega)
    rw [← HNB.out] at h
    exact h))
  have ltB := O10.out.lt
  go_wp2_with (first
    | (refine load_u (by kernel_rfl) 37 16 _ rfl d9 [.int .i64 sz, .int .i64 W, .int .i64 Hh, .bool top, .int .i64 dp, .int .i64 mt, .int .i64 co, .int .i64 (m 0), .int .i64 (m 1), .int .i64 (m 2), .int .i64 (m 3), .int .i64 (m 4), .int .i64 (m 5), .int .i64 (m 6), .int .i64 (m 7), .int .i64 0] rfl rfl O9.out Tryz.underlying37 rfl (by kernel_rfl) ?_; intro _))
  with_reducible refine (HTB.out _ PX.out).mono ?_
  intro e w5 hpo
  by_cases hin : s.size < en + nb
  · skip
    obtain ⟨y, m1, rfl, hP, hyL, hls, hbt, hC⟩ := hpo.2 hin
    clear hpo
    have hC : Chg (fun k => k = X ∨ k = L) _ _ := hC
    have O4 := Hi (hC.obj O4.out (show ¬ (d4 = X ∨ d4 = L) from by omega))
    have O9 := Hi (hC.obj O9.out (show ¬ (d9 = X ∨ d9 = L) from by omega))
    have O10 := Hi (hC.obj O10.out (show ¬ ((d9 + 1) = X ∨ (d9 + 1) = L) from by omega))
    have BL := Hi (BL.out.trans (hC.below BL.out.size (fun k hk => by rcases hk with hk | hk <;> (rw [hk]; assumption))))
    have HLm := Hi (show LedAt w5 L m1 by have := hP.led; rw [show y.L = L from hyL] at this; exact this)
    have HLF := Hi (show m1.br = false ∧ m1.mw = 60 ∧ m1.mh = 60 ∧ m1.mb = 20000 ∧ m1.bt = 0 by
      obtain ⟨a1, a2, a3, a4, a5, a6, a7, a8⟩ := HL1.out
      exact ⟨hls.br, by rw [hls.mw, a4], by rw [hls.mh, a5], by rw [hls.mb, a3], by rw [hbt, a2]⟩)
    clear hP hyL hls hbt hC PX
    have ltC := HLm.out.lt
    obtain ⟨d11, hd11⟩ : ∃ d, w5.heap.size = d := ⟨_, rfl⟩
    have ltD := O10.out.lt
    have O11 := Hi (obj1_new w5 #[.int .i64 0, .int .i64 0, .int .i64 0] 39)
    rw [hd11] at O11 ltC ltD
    have hal := (Chg.refl (fun _ => False) w5).alloc (.cells #[.int .i64 0, .int .i64 0, .int .i64 0] 39)
    have O4 := Hi (hal.obj O4.out (fun h => h))
    have O9 := Hi (hal.obj O9.out (fun h => h))
    have O10 := Hi (hal.obj O10.out (fun h => h))
    have HLm := Hi (HLm.out.chg hal (fun h => h))
    have BL := Hi (BL.out.trans (hal.below BL.out.size (fun _ h => h.elim)))
    clear hal
    go_upto_region 10 with (first
      | (refine store_o rfl 39 3 _ _ rfl d11 [.int .i64 1, .int .i64 1, .int .i64 s.size] rfl rfl (by kernel_rfl) (by kernel_rfl) (by kernel_rfl) O11.out (by first | rfl | simp) ?_; intro ws hst hO; have hcs := Stored.chgS (S := fun k => k = d11) hst (Chg.refl _ _) (Or.inl rfl); have O11 := Hi hO; have O4 := Hi (hcs.obj O4.out (show ¬ d4 = d11 by omega)); have O9 := Hi (hcs.obj O9.out (show ¬ d9 = d11 by omega)); have O10 := Hi (hcs.obj O10.out (show ¬ (d9 + 1) = d11 by omega)); have HLm := Hi (HLm.out.chg hcs (show ¬ L = d11 by omega)); have BL := Hi (BL.out.trans (hcs.below BL.out.size (fun k hk => by rw [hk]; omega))); clear hst hO hcs))
    clear hd11
    have q41 := (O4.out.cell 1).trans (show _ = some (.int .i64 W) from rfl)
    have q42 := (O4.out.cell 2).trans (show _ = some (.int .i64 Hh) from rfl)
    have hWH : W * Hh ≤ 3600 := Nat.mul_le_mul hW2 hH2
    have HWH := Hi hWH
    clear hWH
    have HRN := Hi (fun w0 (h0 : LedAt w0 L m1) => (show Calls Tryz.prog 20 #[.pointer (some ⟨L, 0, none⟩), .int .i64 W, .int .i64 Hh] w0 (RasGood w0 L m1 W Hh) from
      ras_rich L m1 W Hh w0 h0 HLF.out.1 HB.out.1 (by rw [HLF.out.2.1]; omega) HB.out.2.1 (by rw [HLF.out.2.2.1]; omega) (by rw [HLF.out.2.1, HLF.out.2.2.1]; decide) (by have := HLF.out; have := HWH.out; omega)))
    go_wp2_with fail
    with_reducible refine (HRN.out _ HLm.out).mono ?_
    rintro e w6 ⟨RR, rB, rg, rfl, hL, hras, hR1, hR2, hR3, hC⟩
    clear q41 q42
    have hC : Chg (fun k => k = L) _ _ := hC
    have O4 := Hi (hC.obj O4.out (show ¬ d4 = L by omega))
    have O9 := Hi (hC.obj O9.out (show ¬ d9 = L by omega))
    have O10 := Hi (hC.obj O10.out (show ¬ (d9 + 1) = L by omega))
    have O11 := Hi (hC.obj O11.out (show ¬ d11 = L by omega))
    have BL := Hi (BL.out.trans (hC.below BL.out.size (fun k hk => by rw [hk]; omega)))
    clear hL hras hR1 hR2 hR3 hC HLm
    have q11 := (O11.out.cell 0).trans (show _ = some (.int .i64 1) from rfl)
    go_upto_region 12 with (first
      | ((with_reducible refine skip_g rfl ?_ ?_); rfl; intro _))
    go_wp2_with (first
      | ((with_reducible refine skip_g rfl ?_ ?_); rfl; intro _)
      | ((go_at_call 29; (with_reducible refine (awake21 _).mono ?_); rintro e w10 ⟨rfl, hb⟩); have BL := Hi (bthen hb BL.out BL.out.size); clear hb))
    go_ret
    exact ⟨rfl, BL.out⟩
  · skip
    obtain ⟨ov, P, pp, l2, rfl, hov, hpt, hP, hls, hbt1, hbt2, hst1, hst2, hC⟩ := hpo.1 (by omega)
    clear hpo
    have hC : Chg (fun k => k = X ∨ k = L) _ _ := hC
    have HL2 := Hi (show l2.br = false ∧ l2.mw = 60 ∧ l2.mh = 60 ∧ l2.mb = 20000 ∧ l2.mx = 100000 ∧ 0 ≤ l2.bt ∧ l2.bt ≤ 1024 ∧ 0 ≤ l2.st ∧ l2.st ≤ 260 by
      obtain ⟨a1, a2, a3, a4, a5, a6, a7, a8⟩ := HL1.out
      have hco := HB.out.2.2.2.1
      exact ⟨hls.br, by rw [hls.mw, a4], by rw [hls.mh, a5], by rw [hls.mb, a3], by rw [hls.mx, a6], by omega, by omega, by omega, by omega⟩)
    obtain ⟨pl, hpl⟩ : ∃ n, n = en + nb := ⟨_, rfl⟩
    have HPL := Hi hpl
    have hple : pl ≤ s.size := by omega
    have hP : Pair w5 X ⟨L, s, 0, s.size, pl⟩ l2 := by rw [hpl, HNB.out]; exact hP
    have HOV := Hi hov
    have O4 := Hi (hC.obj O4.out (show ¬ (d4 = X ∨ d4 = L) from by omega))
    have O9 := Hi (hC.obj O9.out (show ¬ (d9 = X ∨ d9 = L) from by omega))
    have O10 := Hi (hC.obj O10.out (show ¬ ((d9 + 1) = X ∨ (d9 + 1) = L) from by omega))
    have BL := Hi (BL.out.trans (hC.below BL.out.size (fun k hk => by rcases hk with hk | hk <;> (rw [hk]; assumption))))
    have PX := Hi hP
    have HPT := Hi (show dp ≤ 8 → PalAt w5 P pp ∧ d9 + 1 < P ∧ d9 + 1 < pp.B ∧ d9 + 1 < pp.b.g ∧ TabOf s en kd co L pp from fun h8 => by
      obtain ⟨t1, t2, t3, t4, t5⟩ := hpt h8
      exact ⟨t1, by omega, by omega, by omega, t5⟩)
    clear hpl hP hpt hov hls hbt1 hbt2 hst1 hst2 hC
    obtain ⟨d11, hd11⟩ : ∃ d, w5.heap.size = d := ⟨_, rfl⟩
    have ltD := O10.out.lt
    have ltX := PX.out.src.lt
    have O11 := Hi (obj1_new w5 #[.int .i64 0, .int .i64 0, .int .i64 0] 39)
    rw [hd11] at O11 ltD ltX
    have HPT := Hi (show dp ≤ 8 → PalAt (w5.alloc (.cells #[.int .i64 0, .int .i64 0, .int .i64 0] 39)) P pp ∧ (d9 + 1 < P ∧ P < d11) ∧ (d9 + 1 < pp.B ∧ pp.B < d11) ∧ (d9 + 1 < pp.b.g ∧ pp.b.g < d11) ∧ TabOf s en kd co L pp from fun h8 => by
      obtain ⟨t1, t2, t3, t4, t5⟩ := HPT.out h8
      exact ⟨t1.chg ((Chg.refl (fun _ => False) w5).alloc _) (fun h => h) (fun h => h) (fun h => h), ⟨t2, by rw [← hd11]; exact t1.lt⟩, ⟨t3, by rw [← hd11]; exact t1.buf.lt⟩, ⟨t4, by rw [← hd11]; exact t1.buf.glt t1.opn⟩, t5⟩)
    have hal := (Chg.refl (fun _ => False) w5).alloc (.cells #[.int .i64 0, .int .i64 0, .int .i64 0] 39)
    have O4 := Hi (hal.obj O4.out (fun h => h))
    have O9 := Hi (hal.obj O9.out (fun h => h))
    have O10 := Hi (hal.obj O10.out (fun h => h))
    have PX := Hi (show Pair _ X ⟨L, s, 0, s.size, pl⟩ l2 from ⟨PX.out.src.chg hal (fun h => h), PX.out.led.chg hal (fun h => h)⟩)
    have BL := Hi (BL.out.trans (hal.below BL.out.size (fun _ h => h.elim)))
    clear hal
    go_upto_region 10 with (first
      | (refine store_o rfl 39 3 _ _ rfl d11 [.int .i64 0, .int .i64 0, .int .i64 0] rfl rfl (by kernel_rfl) (by kernel_rfl) (by kernel_rfl) O11.out (by first | rfl | simp) ?_; intro ws hst hO; have hcs := Stored.chgS (S := fun k => k = d11) hst (Chg.refl _ _) (Or.inl rfl); have O11 := Hi hO; have O4 := Hi (hcs.obj O4.out (show ¬ d4 = d11 by omega)); have O9 := Hi (hcs.obj O9.out (show ¬ d9 = d11 by omega)); have O10 := Hi (hcs.obj O10.out (show ¬ (d9 + 1) = d11 by omega)); have PX := Hi (show Pair _ X ⟨L, s, 0, s.size, pl⟩ l2 from ⟨PX.out.src.chg hcs (show ¬ X = d11 by omega), PX.out.led.chg hcs (show ¬ L = d11 by omega)⟩); have BL := Hi (BL.out.trans (hcs.below BL.out.size (fun k hk => by rw [hk]; omega))); have HPT := Hi (show dp ≤ 8 → PalAt ws P pp ∧ (d9 + 1 < P ∧ P < d11) ∧ (d9 + 1 < pp.B ∧ pp.B < d11) ∧ (d9 + 1 < pp.b.g ∧ pp.b.g < d11) ∧ TabOf s en kd co L pp from fun h8 => ⟨(HPT.out h8).1.chg hcs (by have := HPT.out h8; omega) (by have := HPT.out h8; omega) (by have := HPT.out h8; omega), (HPT.out h8).2⟩); clear hst hO hcs))
    clear hd11
    have q41 := (O4.out.cell 1).trans (show _ = some (.int .i64 W) from rfl)
    have q42 := (O4.out.cell 2).trans (show _ = some (.int .i64 Hh) from rfl)
    have hWH : W * Hh ≤ 3600 := Nat.mul_le_mul hW2 hH2
    have HWH := Hi hWH
    clear hWH
    have HRN := Hi (fun w0 (h0 : LedAt w0 L l2) => (show Calls Tryz.prog 20 #[.pointer (some ⟨L, 0, none⟩), .int .i64 W, .int .i64 Hh] w0 (RasGood w0 L l2 W Hh) from
      ras_rich L l2 W Hh w0 h0 HL2.out.1 HB.out.1 (by rw [HL2.out.2.1]; omega) HB.out.2.1 (by rw [HL2.out.2.2.1]; omega) (by rw [HL2.out.2.1, HL2.out.2.2.1]; decide) (by have := HL2.out; have := HWH.out; omega)))
    have k0 := O11.out.lt
    go_wp2_with fail
    with_reducible refine (HRN.out _ PX.out.led).mono ?_
    rintro e w6 ⟨RR, rB, rg, rfl, hL, hras, hR1, hR2, hR3, hC⟩
    clear q41 q42
    have hC : Chg (fun k => k = L) _ _ := hC
    obtain ⟨l3, hl3⟩ : ∃ l3 : Led, (l2.take ((W * Hh * 4 : Nat) : Int)).1 = l3 := ⟨_, rfl⟩
    rw [hl3] at hL
    have HL3 := Hi (show l3.br = false ∧ l3.mx = 100000 ∧ 0 ≤ l3.st ∧ l3.st ≤ 260 by
      obtain ⟨a1, a2, a3, a4, a5, a6, a7, a8, a9⟩ := HL2.out
      have hw := HWH.out
      have htk : (l2.take ((W * Hh * 4 : Nat) : Int)).1 = { l2 with bt := l2.bt + ((W * Hh * 4 : Nat) : Int), pk := if l2.bt + ((W * Hh * 4 : Nat) : Int) ≤ l2.pk then l2.pk else l2.bt + ((W * Hh * 4 : Nat) : Int) } := by
        unfold Led.take; rw [if_neg (by rw [a1]; decide), if_neg (by omega)]
      rw [← hl3, htk]
      exact ⟨a1, a5, a8, a9⟩)
    have PY := Hi (show Pair w6 X ⟨L, s, 0, s.size, pl⟩ l3 from ⟨PX.out.src.chg hC (show ¬ X = L by omega), hL⟩)
    have HPT := Hi (show dp ≤ 8 → PalAt w6 P pp ∧ (d9 + 1 < P ∧ P < d11) ∧ (d9 + 1 < pp.B ∧ pp.B < d11) ∧ (d9 + 1 < pp.b.g ∧ pp.b.g < d11) ∧ TabOf s en kd co L pp from fun h8 => ⟨(HPT.out h8).1.chg hC (show ¬ P = L by have := HPT.out h8; omega) (show ¬ pp.B = L by have := HPT.out h8; omega) (show ¬ pp.b.g = L by have := HPT.out h8; omega), (HPT.out h8).2⟩)
    have O4 := Hi (hC.obj O4.out (show ¬ d4 = L by omega))
    have O9 := Hi (hC.obj O9.out (show ¬ d9 = L by omega))
    have O10 := Hi (hC.obj O10.out (show ¬ (d9 + 1) = L by omega))
    have O11 := Hi (hC.obj O11.out (show ¬ d11 = L by omega))
    have BL := Hi (BL.out.trans (hC.below BL.out.size (fun k hk => by rw [hk]; omega)))
    have PX := Hi PY.out
    have HRAS := Hi hras
    have r1 : d11 < RR := by omega
    have r2 : d11 < rB := by omega
    have r3 : d11 < rg := by omega
    have HAP := Hi (show RowApart X (decide (dp ≤ 8)) P RR ⟨L, s, 0, s.size, pl⟩ pp ⟨L, W, Hh, rB, true, ⟨L, rg, zeros8 (W * Hh * 4), true⟩⟩ from
      ⟨rfl, by show X ≠ rg; omega, by omega, by show rB ≠ X; omega, fun e => by have := HPT.out (of_decide_eq_true e); exact ⟨by omega, by show P ≠ L; omega, by show P ≠ rg; omega⟩, fun e => by have := HPT.out (of_decide_eq_true e); exact ⟨by omega, by show pp.B ≠ L; omega, by show pp.B ≠ rg; omega⟩, fun e => by have := HPT.out (of_decide_eq_true e); exact ⟨by omega, by show pp.b.g ≠ L; omega, by show pp.b.g ≠ rg; omega⟩⟩)
    clear hL hras hR1 hR2 hR3 hC hl3 PY k0
    have q11 := (O11.out.cell 0).trans (show _ = some (.int .i64 0) from rfl)
    have q41 := (O4.out.cell 1).trans (show _ = some (.int .i64 W) from rfl)
    have q91 := (O9.out.cell 1).trans (show _ = some (.int .i64 W) from rfl)
    have q42 := (O4.out.cell 2).trans (show _ = some (.int .i64 Hh) from rfl)
    have q92 := (O9.out.cell 2).trans (show _ = some (.int .i64 Hh) from rfl)
    go_upto_region 13 with (first
      | ((with_reducible refine skip_g rfl ?_ ?_); rfl; intro _))
    clear q11 q41 q42 q91 q92
    have HRL := Hi (fun w0 (h0 : Pair w0 X ⟨L, s, 0, s.size, pl⟩ l3) (h1 : dp ≤ 8 → PalAt w0 P pp) (h2 : RasAt w0 RR ⟨L, W, Hh, rB, true, ⟨L, rg, zeros8 (W * Hh * 4), true⟩⟩) =>
      (show Calls Tryz.prog 30 #[.pointer (some ⟨X, 0, none⟩), .agg (List.toArray [.int .i64 sz, .int .i64 W, .int .i64 Hh, .bool top, .int .i64 dp, .int .i64 mt, .int .i64 co, .int .i64 (m 0), .int .i64 (m 1), .int .i64 (m 2), .int .i64 (m 3), .int .i64 (m 4), .int .i64 (m 5), .int .i64 (m 6), .int .i64 (m 7), .int .i64 0]), .pointer ov, .agg (List.toArray [.int .i64 (m 0), .int .i64 (m 1), .int .i64 (m 2), .int .i64 (m 3), .int .i64 (m 4), .int .i64 (m 5), .int .i64 (m 6), .int .i64 (m 7)]), .pointer (some ⟨RR, 0, none⟩), .int .i64 1] w0 (RowsRich w0 X RR ⟨L, s, 0, s.size, pl⟩ l3 ⟨L, W, Hh, rB, true, ⟨L, rg, zeros8 (W * Hh * 4), true⟩⟩ ⟨W, Hh, top, dp, r, g, b, q⟩ (colsL (s.extract en s.size) kd co) co 1) from
        rows_rich X P RR sz ⟨W, Hh, top, dp, r, g, b, q⟩ mt co 0 1 m ⟨L, s, 0, s.size, pl⟩ l3 pp ⟨L, W, Hh, rB, true, ⟨L, rg, zeros8 (W * Hh * 4), true⟩⟩ ov kd en co w0 HOV.out h0 h1 h2 HAP.out rfl rfl rfl HDK.out HPR.out.1 HPR.out.2.1 HPR.out.2.2.1 HPR.out.2.2.2 HK34.out (fun h8 => (HPT.out h8).2.2.2.2) (by show en + kd * co ≤ s.size; rw [← HNB.out]; omega) HL3.out.1
          (by have := HL3.out; have hm : Hh * (2 * W + 1) ≤ 60 * 121 := Nat.mul_le_mul hH2 (by omega); show l3.st + ((Hh * (2 * W + 1) : Nat) : Int) < l3.mx; omega)))
    go_wp2_with (first
      | (refine load_u (by kernel_rfl) 37 16 _ rfl d9 [.int .i64 sz, .int .i64 W, .int .i64 Hh, .bool top, .int .i64 dp, .int .i64 mt, .int .i64 co, .int .i64 (m 0), .int .i64 (m 1), .int .i64 (m 2), .int .i64 (m 3), .int .i64 (m 4), .int .i64 (m 5), .int .i64 (m 6), .int .i64 (m 7), .int .i64 0] rfl rfl O9.out Tryz.underlying37 rfl (by kernel_rfl) ?_; intro _)
      | (refine load_ag (by kernel_rfl) 35 _ rfl d9 7 [.int .i64 (m 0), .int .i64 (m 1), .int .i64 (m 2), .int .i64 (m 3), .int .i64 (m 4), .int .i64 (m 5), .int .i64 (m 6), .int .i64 (m 7)] rfl O9.out rfl Tryz.underlying35 rfl (by kernel_rfl) ?_; intro _))
    with_reducible refine (HRL.out _ PX.out (fun h8 => (HPT.out h8).1) HRAS.out).mono ?_
    rintro e w8 ⟨⟨y, m2, dd, k, t, rfl, hP, hyL, -, hm, hk, -⟩, hC⟩
    have hC : Chg (fun k => k = X ∨ k = L ∨ k = rg) _ _ := hC
    have hrgw : w.heap.size ≤ rg := by omega
    have O4 := Hi (hC.obj O4.out (show ¬ (d4 = X ∨ d4 = L ∨ d4 = rg) from by omega))
    have BL := Hi (BL.out.trans (hC.below BL.out.size (fun k hk => by rcases hk with hk | hk | hk; (rw [hk]; assumption); (have hk : k = L := hk; rw [hk]; assumption); (have hk : k = rg := hk; rw [hk]; assumption))))
    have HLm := Hi (show LedAt w8 L m2 by have := hP.led; rw [show y.L = L from hyL] at this; exact this)
    obtain ⟨ST, hST⟩ : ∃ v : Int, m2.st = v := ⟨_, rfl⟩
    have HSTP := Hi (fun w0 (h0 : LedAt w0 L m2) => (steps_any L m2 w0 h0).mono (R' := fun e w' => e = .returned (.int .i64 ST) ∧ w' = w0) fun e w' hh => by rw [hST] at hh; exact ⟨hh.1, hh.2.symm⟩)
    obtain ⟨wh, hwh⟩ : ∃ n, W * Hh = n := ⟨_, rfl⟩
    have hwhb : wh ≤ 3600 := by rw [← hwh]; exact HWH.out
    have ewh : (4 : Int) * (W : Int) * (Hh : Int) = 4 * (wh : Int) := by rw [← hwh, Int.natCast_mul, Int.mul_assoc]
    have hSTb : 0 ≤ ST ∧ ST ≤ 4 * (wh : Int) + 2 * (s.size : Int) + 300 := by
      have h3 := HL3.out
      have hk : k ≤ Hh * (2 * W + 1) := hk
      have e1 : Hh * (2 * W + 1) = 2 * wh + Hh := by rw [Nat.mul_add, Nat.mul_one, ← hwh, ← Nat.mul_assoc, Nat.mul_comm Hh 2, Nat.mul_assoc, Nat.mul_comm Hh W]
      have h1 : Hh ≤ wh := by rw [← hwh]; exact Nat.le_mul_of_pos_left Hh HB.out.1
      rw [← hST, hm]
      show 0 ≤ l3.st + (k : Int) ∧ l3.st + (k : Int) ≤ _
      omega
    clear hP hyL hm hk hC hST hwh PX O9 O10 O11 HRAS
    have ltz := O4.out.lt
    go_upto_region 14 with (fail)
    skip
    refine wp_region_noPanic ?_
    refine wp_region_held_drew (S := fun w' => Chg (fun _ => False) w8 w') (by kernel_rfl) (Chg.refl _ _).drew (fun hHeld => ?_)
    refine wpAnyH_take (i := 0) (v := .pointer (some ⟨L, 0, none⟩)) rfl (by kernel_rfl) (by kernel_rfl) (by kernel_rfl) (fun _ _ _ h => h) (Or.inl ⟨by rfl, fun w hS => by (go_simp) <;> first | rfl | assumption | (intro hh; exfalso; omega) | (exact (i64_wraps _ (by omega) (by omega)).trans (by omega)) | omega⟩) hHeld ?_
    simp only [Act.put, zq1, zq2, zq3, zq4, zq5, zq6]
    refine wpAnyH_call2 (i := 1) (v := .int .i64 ST) rfl (by kernel_rfl) (by kernel_rfl) (by kernel_rfl) (fun _ _ _ h => h) (Or.inr ⟨by rfl, fun wx hS => ⟨21, #[.pointer (some ⟨L, 0, none⟩)], by kernel_rfl, HSTP.out wx (HLm.out.chg hS (fun h => h))⟩⟩) hHeld ?_
    simp only [Act.put, zq1, zq2, zq3, zq4, zq5, zq6]
    refine wpAnyH_take (i := 2) (v := .pointer (some ⟨d4, 1, none⟩)) rfl (by kernel_rfl) (by kernel_rfl) (by kernel_rfl) (fun _ _ _ h => h) (Or.inl ⟨by rfl, fun w hS => by (go_simp) <;> first | rfl | assumption | (intro hh; exfalso; omega) | (exact (i64_wraps _ (by omega) (by omega)).trans (by omega)) | omega⟩) hHeld ?_
    simp only [Act.put, zq1, zq2, zq3, zq4, zq5, zq6]
    refine wpAnyH_take (i := 3) (v := .int .i64 (W : Int)) rfl (by kernel_rfl) (by kernel_rfl) (by kernel_rfl) (fun _ _ _ h => h) (Or.inl ⟨by rfl, fun w hS => by (have hc : w.cell? ⟨d4, 1, none⟩ = some (.int .i64 (W : Int)) := (hS.cell (b := d4) (o := 1) O4.out.lt (fun h => h)).trans ((O4.out.cell 1).trans rfl); go_simp)⟩) hHeld ?_
    simp only [Act.put, zq1, zq2, zq3, zq4, zq5, zq6]
    refine wpAnyH_take (i := 4) (v := .int .i64 (4 * (W : Int))) rfl (by kernel_rfl) (by kernel_rfl) (by kernel_rfl) (fun _ _ _ h => h) (Or.inl ⟨by rfl, fun w hS => by (go_simp; (try rw [IntKind.wrap_i64]); omega)⟩) hHeld ?_
    simp only [Act.put, zq1, zq2, zq3, zq4, zq5, zq6]
    refine wpAnyH_take (i := 5) (v := .pointer (some ⟨d4, 2, none⟩)) rfl (by kernel_rfl) (by kernel_rfl) (by kernel_rfl) (fun _ _ _ h => h) (Or.inl ⟨by rfl, fun w hS => by (go_simp) <;> first | rfl | assumption | (intro hh; exfalso; omega) | (exact (i64_wraps _ (by omega) (by omega)).trans (by omega)) | omega⟩) hHeld ?_
    simp only [Act.put, zq1, zq2, zq3, zq4, zq5, zq6]
    refine wpAnyH_take (i := 6) (v := .int .i64 (Hh : Int)) rfl (by kernel_rfl) (by kernel_rfl) (by kernel_rfl) (fun _ _ _ h => h) (Or.inl ⟨by rfl, fun w hS => by (have hc : w.cell? ⟨d4, 2, none⟩ = some (.int .i64 (Hh : Int)) := (hS.cell (b := d4) (o := 2) O4.out.lt (fun h => h)).trans ((O4.out.cell 2).trans rfl); go_simp)⟩) hHeld ?_
    simp only [Act.put, zq1, zq2, zq3, zq4, zq5, zq6]
    refine wpAnyH_take (i := 7) (v := .int .i64 (4 * (wh : Int))) rfl (by kernel_rfl) (by kernel_rfl) (by kernel_rfl) (fun _ _ _ h => h) (Or.inl ⟨by rfl, fun w hS => by (go_simp; exact i64_wraps _ (by omega) (by omega))⟩) hHeld ?_
    simp only [Act.put, zq1, zq2, zq3, zq4, zq5, zq6]
    refine wpAnyH_take (i := 8) (v := .string s) rfl (by kernel_rfl) (by kernel_rfl) (by kernel_rfl) (fun _ _ _ h => h) (Or.inl ⟨by rfl, fun w hS => by (go_simp) <;> first | rfl | assumption | (intro hh; exfalso; omega) | (exact (i64_wraps _ (by omega) (by omega)).trans (by omega)) | omega⟩) hHeld ?_
    simp only [Act.put, zq1, zq2, zq3, zq4, zq5, zq6]
    refine wpAnyH_take (i := 9) (v := .int .i64 (s.size : Int)) rfl (by kernel_rfl) (by kernel_rfl) (by kernel_rfl) (fun _ _ _ h => h) (Or.inl ⟨by rfl, fun w hS => by (go_simp) <;> first | rfl | assumption | (intro hh; exfalso; omega) | (exact (i64_wraps _ (by omega) (by omega)).trans (by omega)) | omega⟩) hHeld ?_
    simp only [Act.put, zq1, zq2, zq3, zq4, zq5, zq6]
    refine wpAnyH_take (i := 10) (v := .int .i64 (2 * (s.size : Int))) rfl (by kernel_rfl) (by kernel_rfl) (by kernel_rfl) (fun _ _ _ h => h) (Or.inl ⟨by rfl, fun w hS => by (go_simp; (try rw [IntKind.wrap_i64]); omega)⟩) hHeld ?_
    simp only [Act.put, zq1, zq2, zq3, zq4, zq5, zq6]
    refine wpAnyH_take (i := 11) (v := .int .i64 (4 * (wh : Int) + 2 * (s.size : Int))) rfl (by kernel_rfl) (by kernel_rfl) (by kernel_rfl) (fun _ _ _ h => h) (Or.inl ⟨by rfl, fun w hS => by (go_simp; (try rw [IntKind.wrap_i64]); omega)⟩) hHeld ?_
    simp only [Act.put, zq1, zq2, zq3, zq4, zq5, zq6]
    refine wpAnyH_take (i := 12) (v := .int .i64 (4 * (wh : Int) + 2 * (s.size : Int) + 300)) rfl (by kernel_rfl) (by kernel_rfl) (by kernel_rfl) (fun _ _ _ h => h) (Or.inl ⟨by rfl, fun w hS => by (go_simp; (try rw [IntKind.wrap_i64]); omega)⟩) hHeld ?_
    simp only [Act.put, zq1, zq2, zq3, zq4, zq5, zq6]
    refine wpAnyH_take (i := 13) (v := .bool true) rfl (by kernel_rfl) (by kernel_rfl) (by kernel_rfl) (fun _ _ _ h => h) (Or.inl ⟨by rfl, fun w hS => by go_simp⟩) hHeld ?_
    simp only [Act.put, zq1, zq2, zq3, zq4, zq5, zq6]
    refine wpAnyH_take (i := 14) (v := .bool true) rfl (by kernel_rfl) (by kernel_rfl) (by kernel_rfl) (fun _ _ _ h => h) (Or.inl ⟨by rfl, fun w hS => by go_simp⟩) hHeld ?_
    simp only [Act.put, zq1, zq2, zq3, zq4, zq5, zq6]
    have hS := (Chg.refl (fun _ => False) w8).drew
    generalize World.drew _ = wk at hS ⊢
    refine wpAnyH_ready (rs := [15]) (by kernel_rfl) (by simp) ?_
    refine AllReadyH.cons (o := _) rfl (fun K' hK => ?_) AllReadyH.nil
    go_simp
    with_reducible refine (awake21 _).mono ?_
    rintro e7 w7 ⟨rfl, hb7⟩
    go_wp2_with fail
    have hS := hS.trans (chg_of_below hb7 _)
    refine hK _ _ hS (fun hH2 => ?_)
    clear hK K'
    try simp only [Act.put, zq1, zq2, zq3, zq4, zq5, zq6]
    refine wpAnyH_take (i := 16) (v := .bool true) rfl (by kernel_rfl) (by kernel_rfl) (by kernel_rfl) (fun _ _ _ h => h) (Or.inl ⟨by rfl, fun w hS => by go_simp⟩) hH2 ?_
    simp only [Act.put, zq1, zq2, zq3, zq4, zq5, zq6]
    refine wpAnyH_take (i := 17) (v := .bool true) rfl (by kernel_rfl) (by kernel_rfl) (by kernel_rfl) (fun _ _ _ h => h) (Or.inl ⟨by rfl, fun w hS => by go_simp⟩) hH2 ?_
    simp only [Act.put, zq1, zq2, zq3, zq4, zq5, zq6]
    refine wpAnyH_done (by kernel_rfl) ?_ _
    refine NoPanic.normal ?_
    go_wp2_with fail
    go_ret
    exact ⟨rfl, BL.out.trans (hS.below BL.out.size (fun _ h => h.elim))⟩
theorem steps21_law (s : ByteArray) (hs : s.size ≤ 9223372036854775807) (w : World) : Calls Tryz.prog 5 #[.string s] w (Yes w) := by
  by_cases h : s.size ≤ 900
  · rcases head_cases s 0 (Nat.zero_le _) (by omega) 1 with ⟨k, a, hk, hr⟩ | ⟨H, r, g, b, q, en, HG⟩
    · exact steps21_exit s w h 0 0 0 false 0 0 0 0 0 0 0 0 0 k a (by rw [hr]; rfl) (Or.inl hk)
    · have hr := HG.ok
      unfold rOk at hr
      by_cases h1 : H.mt = 1
      · exact steps21_exit s w h _ _ _ _ _ _ _ _ _ _ _ _ _ 0 0 hr (Or.inr (Or.inl ⟨rfl, h1⟩))
      by_cases h2 : H.mt = 2
      · exact steps21_exit s w h _ _ _ _ _ _ _ _ _ _ _ _ _ 0 0 hr (Or.inr (Or.inr (Or.inl ⟨rfl, h2⟩)))
      by_cases h3 : 60 < H.w
      · exact steps21_exit s w h _ _ _ _ _ _ _ _ _ _ _ _ _ 0 0 hr (Or.inr (Or.inr (Or.inr (Or.inl ⟨rfl, h1, h2, h3⟩))))
      by_cases h4 : 60 < H.h
      · exact steps21_exit s w h _ _ _ _ _ _ _ _ _ _ _ _ _ 0 0 hr (Or.inr (Or.inr (Or.inr (Or.inr ⟨rfl, h1, h2, by omega, h4⟩))))
      obtain ⟨sz, W, Hh, dp, co, top, mt, m, hmt, RH⟩ := row_head s 1 H r g b q en HG (by omega) (by omega)
      exact steps21_good s w h sz W Hh top dp mt co r g b q en m RH (by rw [hmt]; exact h1) (by rw [hmt]; exact h2)
  · exact steps21_long s w (by omega) hs
end Go.Proofs.YtlfbaggcfaenlaaGreat

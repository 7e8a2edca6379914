/- The law DibrowReads, walked. -/
import Derived.Test.YtlfbaggcfaenlaaGreatK40
import Derived.Test.YtlfbaggcfaenlaaGreatK41
import Derived.Test.YtlfbaggcfaenlaaGreatK42
import Derived.Test.YtlfbaggcfaenlaaGreatK43
import Derived.Test.YtlfbaggcfaenlaaGreatK5
import Derived.Test.YtlfbaggcfaenlaaGreatK0
namespace Go.Proofs.YtlfbaggcfaenlaaGreat
open Go.RowKit
set_option linter.unusedVariables false
set_option linter.unusedSimpArgs false
theorem zC_zeros2 (N : Nat) : u8s (zeros8 (N * 4)) = zC N := by
  unfold u8s zeros8
  rw [List.map_replicate]
  refine (List.eq_replicate_iff.2 ⟨by rw [zC_len]; omega, fun v hv => ?_⟩).symm
  unfold zC madeCells at hv
  rw [Array.mem_toList_iff, Array.mem_map] at hv
  obtain ⟨x, -, rfl⟩ := hv
  have h4 : x % 4 < 4 := Nat.mod_lt _ (by decide)
  show (#[Value.int .u8 0, .int .u8 0, .int .u8 0, .int .u8 0] : Array Value)[x % 4]! = _
  have : x % 4 = 0 ∨ x % 4 = 1 ∨ x % 4 = 2 ∨ x % 4 = 3 := by omega
  rcases this with h | h | h | h <;> rw [h] <;> rfl
def RowSays (R : E22 (List Value)) (t : Int × Int) (dd : List Int) (P : Prop) : Prop := match R with
  | .error z => t = z ∧ z.1 ≠ 0
  | .ok L => t = (0, 0) ∧ u8s dd = L ∧ P
set_option maxRecDepth 100000 in
set_option maxHeartbeats 16000000 in
theorem reads21_long (s : ByteArray) (f : Int) (w : World) (h : 900 < s.size) (hs : s.size ≤ 9223372036854775807) : Calls Tryz.prog 6 #[.string s, .int .i64 f] w (Yes w) := by
  have HR := Hi (fun w0 => (show Calls Tryz.prog 23 #[.string s, .int .i64 0, .int .i64 s.size] w0 (RA w0 (rRead20 s 0)) from rread20_any s 0 w0 (Nat.zero_le _) (by decide) hs))
  obtain ⟨R, hR⟩ : ∃ R, rRead20 s 0 = R := ⟨_, rfl⟩
  have hn := rRead20_len4 s 0
  rw [hR] at HR hn
  obtain ⟨hn, ho⟩ := hn
  clear hR
  go_enter Tryz.func6, Tryz.ntmps6
  go_wp2_with fail
  with_reducible refine (HR.out _).mono ?_
  rintro e w1 ⟨rfl, hb⟩
  have BL := Hi hb
  have l4 := hb.size
  clear hb
  obtain ⟨d4, hd4⟩ : ∃ d, w1.heap.size = d := ⟨_, rfl⟩
  have O4 := Hi (obj1_new w1 #[.int .i64 0, .int .i64 0, .int .i64 0, .bool false, .int .i64 0, .int .i64 0, .int .i64 0, .int .i64 0, .int .i64 0, .int .i64 0, .int .i64 0, .int .i64 0, .int .i64 0, .int .i64 0, .int .i64 0] 52)
  have BL := Hi (BL.out.alloc BL.out.size (.cells #[.int .i64 0, .int .i64 0, .int .i64 0, .bool false, .int .i64 0, .int .i64 0, .int .i64 0, .int .i64 0, .int .i64 0, .int .i64 0, .int .i64 0, .int .i64 0, .int .i64 0, .int .i64 0, .int .i64 0] 52))
  rw [hd4] at O4 l4
  go_upto_region 2 with (first
    | (refine store_o rfl 52 15 _ _ rfl d4 (R) hn ho (by kernel_rfl) (by kernel_rfl) (by kernel_rfl) O4.out (by first | rfl | simp) ?_; intro ws hst hO; have O4 := Hi hO; have BL := Hi (hst.below BL.out (by omega)); clear hst hO))
  clear hd4
  go_wp2_with fail
  with_reducible refine (awake21 _).mono ?_
  rintro e w10 ⟨rfl, hb⟩
  have BL := Hi (bthen hb BL.out BL.out.size)
  clear hb
  go_wp2_with fail
  go_ret
  exact ⟨rfl, BL.out⟩
set_option maxRecDepth 100000 in
set_option maxHeartbeats 16000000 in
theorem reads21_exit (s : ByteArray) (f : Int) (w : World) (hs : s.size ≤ 900) (sz W Hh : Int) (top : Bool) (dp mt co r g b q fr en k a : Int) (hr : rRead20 s 0 = [.int .i64 sz, .int .i64 W, .int .i64 Hh, .bool top, .int .i64 dp, .int .i64 mt, .int .i64 co, .int .i64 r, .int .i64 g, .int .i64 b, .int .i64 q, .int .i64 fr, .int .i64 en, .int .i64 k, .int .i64 a])
    (hc : k ≠ 0 ∨ (k = 0 ∧ mt = 1) ∨ (k = 0 ∧ mt = 2) ∨ (k = 0 ∧ mt ≠ 1 ∧ mt ≠ 2 ∧ 60 < W) ∨ (k = 0 ∧ mt ≠ 1 ∧ mt ≠ 2 ∧ W ≤ 60 ∧ 60 < Hh)) : Calls Tryz.prog 6 #[.string s, .int .i64 f] w (Yes w) := by
  have HR := Hi (fun w0 => (show Calls Tryz.prog 23 #[.string s, .int .i64 0, .int .i64 s.size] w0 (RA w0 (rRead20 s 0)) from rread20_any s 0 w0 (Nat.zero_le _) (by decide) (by omega)))
  rw [hr] at HR
  clear hr
  go_enter Tryz.func6, Tryz.ntmps6
  go_wp2_with fail
  with_reducible refine (HR.out _).mono ?_
  rintro e w1 ⟨rfl, hb⟩
  have BL := Hi hb
  have l4 := hb.size
  clear hb
  obtain ⟨d4, hd4⟩ : ∃ d, w1.heap.size = d := ⟨_, rfl⟩
  have O4 := Hi (obj1_new w1 #[.int .i64 0, .int .i64 0, .int .i64 0, .bool false, .int .i64 0, .int .i64 0, .int .i64 0, .int .i64 0, .int .i64 0, .int .i64 0, .int .i64 0, .int .i64 0, .int .i64 0, .int .i64 0, .int .i64 0] 52)
  have BL := Hi (BL.out.alloc BL.out.size (.cells #[.int .i64 0, .int .i64 0, .int .i64 0, .bool false, .int .i64 0, .int .i64 0, .int .i64 0, .int .i64 0, .int .i64 0, .int .i64 0, .int .i64 0, .int .i64 0, .int .i64 0, .int .i64 0, .int .i64 0] 52))
  rw [hd4] at O4 l4
  go_upto_region 2 with (first
    | (refine store_o rfl 52 15 _ _ rfl d4 ([.int .i64 sz, .int .i64 W, .int .i64 Hh, .bool top, .int .i64 dp, .int .i64 mt, .int .i64 co, .int .i64 r, .int .i64 g, .int .i64 b, .int .i64 q, .int .i64 fr, .int .i64 en, .int .i64 k, .int .i64 a]) rfl rfl (by kernel_rfl) (by kernel_rfl) (by kernel_rfl) O4.out (by first | rfl | simp) ?_; intro ws hst hO; have O4 := Hi hO; have BL := Hi (hst.below BL.out (by omega)); clear hst hO))
  clear hd4
  have q13 := (O4.out.cell 13).trans (show _ = some (.int .i64 k) from rfl)
  have q5 := (O4.out.cell 5).trans (show _ = some (.int .i64 mt) from rfl)
  have q1 := (O4.out.cell 1).trans (show _ = some (.int .i64 W) from rfl)
  have q2 := (O4.out.cell 2).trans (show _ = some (.int .i64 Hh) from rfl)
  rcases hc with h | ⟨rfl, h1⟩ | ⟨rfl, h1⟩ | ⟨rfl, h1, h2, h3⟩ | ⟨rfl, h1, h2, h3, h4⟩
  · skip
    go_wp2_with fail
    with_reducible refine (awake21 _).mono ?_
    rintro e w10 ⟨rfl, hb⟩
    have BL := Hi (bthen hb BL.out BL.out.size)
    clear hb
    go_wp2_with fail
    go_ret
    exact ⟨rfl, BL.out⟩
  · subst h1
    go_wp2_with fail
    with_reducible refine (awake21 _).mono ?_
    rintro e w10 ⟨rfl, hb⟩
    have BL := Hi (bthen hb BL.out BL.out.size)
    clear hb
    go_wp2_with fail
    go_ret
    exact ⟨rfl, BL.out⟩
  · subst h1
    go_wp2_with fail
    with_reducible refine (awake21 _).mono ?_
    rintro e w10 ⟨rfl, hb⟩
    have BL := Hi (bthen hb BL.out BL.out.size)
    clear hb
    go_wp2_with fail
    go_ret
    exact ⟨rfl, BL.out⟩
  · skip
    go_wp2_with fail
    with_reducible refine (awake21 _).mono ?_
    rintro e w10 ⟨rfl, hb⟩
    have BL := Hi (bthen hb BL.out BL.out.size)
    clear hb
    go_wp2_with fail
    go_ret
    exact ⟨rfl, BL.out⟩
  · skip
    go_wp2_with fail
    with_reducible refine (awake21 _).mono ?_
    rintro e w10 ⟨rfl, hb⟩
    have BL := Hi (bthen hb BL.out BL.out.size)
    clear hb
    go_wp2_with fail
    go_ret
    exact ⟨rfl, BL.out⟩
set_option maxRecDepth 100000 in
set_option maxHeartbeats 16000000 in
theorem reads21_good (s : ByteArray) (f : Int) (w : World) (hs : s.size ≤ 900) (sz : Int) (W Hh : Nat) (top : Bool) (dp : Nat) (mt : Int) (co : Nat) (r g b q : Int) (en : Nat) (m : Nat → Int) (HH : RowHead s f sz W Hh top dp mt co r g b q en m) (hm1 : mt ≠ 1) (hm2 : mt ≠ 2) : Calls Tryz.prog 6 #[.string s, .int .i64 f] w (Yes w) := by
  obtain ⟨hr, hW1, hW2, hH1, hH2, hco1, hco2, hen, hdk, hp0, hp1, hp2, hp3, hrd⟩ := HH
  have HR := Hi (fun w0 => (show Calls Tryz.prog 23 #[.string s, .int .i64 0, .int .i64 s.size] w0 (RA w0 (rRead20 s 0)) from rread20_any s 0 w0 (Nat.zero_le _) (by decide) (by omega)))
  rw [show rRead20 s 0 = [.int .i64 sz, .int .i64 W, .int .i64 Hh, .bool top, .int .i64 dp, .int .i64 mt, .int .i64 co, .int .i64 r, .int .i64 g, .int .i64 b, .int .i64 q, .int .i64 0, .int .i64 en, .int .i64 0, .int .i64 0] from hr] at HR
  have HRD := Hi hrd
  have HPR := Hi (And.intro hp0 (And.intro hp1 (And.intro hp2 hp3)))
  have HDK := Hi hdk
  obtain ⟨kd, hkd⟩ : ∃ k : Nat, k = if sz = 12 then 3 else 4 := ⟨_, rfl⟩
  have hk34 : kd = 3 ∨ kd = 4 := by rw [hkd]; split <;> simp
  obtain ⟨nb, hnb⟩ : ∃ n, n = kd * co := ⟨_, rfl⟩
  have hnb4 : nb ≤ 1024 := by rw [hnb]; rcases hk34 with h | h <;> rw [h] <;> omega
  have HNB := Hi hnb
  have HKD := Hi hkd
  have HK34 := Hi hk34
  have HB := Hi (And.intro hW1 (And.intro hH1 (And.intro hco1 (And.intro hco2 hen))))
  have HLN := Hi (fun w0 => lnew_any 60 60 20000 100000 w0 (by decide) (by decide))
  clear hr hrd hkd hnb hk34 hW1 hH1 hco1 hco2 hen hp0 hp1 hp2 hp3 hdk
  have HT21 := Hi (fun w0 => (show Calls Tryz.prog 24 #[.string s, .agg (List.toArray [.int .i64 sz, .int .i64 W, .int .i64 Hh, .bool top, .int .i64 dp, .int .i64 mt, .int .i64 co, .int .i64 r, .int .i64 g, .int .i64 b, .int .i64 q, .int .i64 0, .int .i64 en, .int .i64 0, .int .i64 0]), .int .i64 s.size] w0 (Table21Post w0 s kd co dp en nb) from table21_any s sz W Hh top dp mt co r g b q 0 en kd nb w0 HKD.out HNB.out HB.out.2.2.2.1 HB.out.2.2.2.2 (by omega)))
  go_enter Tryz.func6, Tryz.ntmps6
  go_wp2_with fail
  with_reducible refine (HR.out _).mono ?_
  rintro e w1 ⟨rfl, hb⟩
  have BL := Hi hb
  have z0 := hb.size
  clear hb
  obtain ⟨d4, hd4⟩ : ∃ d, w1.heap.size = d := ⟨_, rfl⟩
  have O4 := Hi (obj1_new w1 #[.int .i64 0, .int .i64 0, .int .i64 0, .bool false, .int .i64 0, .int .i64 0, .int .i64 0, .int .i64 0, .int .i64 0, .int .i64 0, .int .i64 0, .int .i64 0, .int .i64 0, .int .i64 0, .int .i64 0] 52)
  have BL := Hi (BL.out.alloc BL.out.size (.cells #[.int .i64 0, .int .i64 0, .int .i64 0, .bool false, .int .i64 0, .int .i64 0, .int .i64 0, .int .i64 0, .int .i64 0, .int .i64 0, .int .i64 0, .int .i64 0, .int .i64 0, .int .i64 0, .int .i64 0] 52))
  rw [hd4] at O4 z0
  go_upto_region 2 with (first
    | (refine store_o rfl 52 15 _ _ rfl d4 ([.int .i64 sz, .int .i64 W, .int .i64 Hh, .bool top, .int .i64 dp, .int .i64 mt, .int .i64 co, .int .i64 r, .int .i64 g, .int .i64 b, .int .i64 q, .int .i64 0, .int .i64 en, .int .i64 0, .int .i64 0]) rfl rfl (by kernel_rfl) (by kernel_rfl) (by kernel_rfl) O4.out (by first | rfl | simp) ?_; intro ws hst hO; have hcs := Stored.chgS (S := fun k => k = d4) hst (Chg.refl _ _) (Or.inl rfl); have O4 := Hi hO; have BL := Hi (BL.out.trans (hcs.below BL.out.size (fun k hk => by rw [hk]; omega))); clear hst hO hcs))
  clear hd4
  have q13 := (O4.out.cell 13).trans (show _ = some (.int .i64 0) from rfl)
  have q5 := (O4.out.cell 5).trans (show _ = some (.int .i64 mt) from rfl)
  have q1 := (O4.out.cell 1).trans (show _ = some (.int .i64 W) from rfl)
  have q2 := (O4.out.cell 2).trans (show _ = some (.int .i64 Hh) from rfl)
  have hg1 : (mt == 1) = false := by rw [beq_eq_false_iff_ne]; exact hm1
  have hg2 : (mt == 2) = false := by rw [beq_eq_false_iff_ne]; exact hm2
  clear hm1 hm2
  go_upto_region 4 with (first
    | ((with_reducible refine skip_g rfl ?_ ?_); rfl; intro _))
  clear q13 q5 q1 q2 hg1 hg2
  go_wp2_with fail
  have ltA := O4.out.lt
  refine (HLN.out _).mono ?_
  rintro e w2 ⟨L, rfl, hL, hLs, hC⟩
  have O4 := Hi (hC.obj O4.out (fun h => h))
  have BL := Hi (BL.out.trans (hC.below BL.out.size (fun _ h => h.elim)))
  have HL := Hi hL
  have lL : d4 < L := by omega
  have lLw : w.heap.size ≤ L := by omega
  clear hLs hC hL ltA
  go_wp2_with fail
  have ltA := HL.out.lt
  refine (snew_any L s _ (by omega) HL.out.lt).mono ?_
  rintro e w3 ⟨X, rfl, hX, hXs, hC⟩
  have O4 := Hi (hC.obj O4.out (fun h => h))
  have HL := Hi (HL.out.chg hC (fun h => h))
  have BL := Hi (BL.out.trans (hC.below BL.out.size (fun _ h => h.elim)))
  have lX : L < X := by omega
  have lXw : w.heap.size ≤ X := by omega
  have PX := Hi (show Pair w3 X ⟨L, s, 0, s.size, 0⟩ (Led.new 60 60 20000 100000) from ⟨hX, HL.out⟩)
  clear hXs hC hX ltA HL
  obtain ⟨l1, hl1, hrd⟩ := HRD.out L X
  have HRD := Hi hrd
  have HL1 := Hi hl1
  clear hrd hl1
  go_upto_region 8 with (fail)
  go_wp2_with fail
  with_reducible refine (HRD.out _ PX.out).mono ?_
  rintro e w4 ⟨rfl, hP, hC⟩
  have hC : Chg (fun k => k = X ∨ k = L) _ _ := hC
  have O4 := Hi (hC.obj O4.out (show ¬ (d4 = X ∨ d4 = L) from by omega))
  have BL := Hi (BL.out.trans (hC.below BL.out.size (fun k hk => by rcases hk with hk | hk <;> (rw [hk]; assumption))))
  have PX := Hi hP
  clear hP hC
  have ltA := PX.out.src.lt
  obtain ⟨d9, hd9⟩ : ∃ d, w4.heap.size = d := ⟨_, rfl⟩
  rw [hd9] at ltA
  have O9 := Hi ((obj1_new w4 #[.int .i64 0, .int .i64 0, .int .i64 0, .bool false, .int .i64 0, .int .i64 0, .int .i64 0, .int .i64 0, .int .i64 0, .int .i64 0, .int .i64 0, .int .i64 0, .int .i64 0, .int .i64 0, .int .i64 0, .int .i64 0] 37).alloc (.cells #[.int .i64 0, .int .i64 0, .int .i64 0] 39))
  have O10 := Hi (obj1_new (w4.alloc (.cells #[.int .i64 0, .int .i64 0, .int .i64 0, .bool false, .int .i64 0, .int .i64 0, .int .i64 0, .int .i64 0, .int .i64 0, .int .i64 0, .int .i64 0, .int .i64 0, .int .i64 0, .int .i64 0, .int .i64 0, .int .i64 0] 37)) #[.int .i64 0, .int .i64 0, .int .i64 0] 39)
  rw [show (w4.alloc (.cells #[.int .i64 0, .int .i64 0, .int .i64 0, .bool false, .int .i64 0, .int .i64 0, .int .i64 0, .int .i64 0, .int .i64 0, .int .i64 0, .int .i64 0, .int .i64 0, .int .i64 0, .int .i64 0, .int .i64 0, .int .i64 0] 37)).heap.size = d9 + 1 by rw [← hd9]; simp] at O10
  rw [hd9] at O9
  have hal := ((Chg.refl (fun _ => False) w4).alloc (.cells #[.int .i64 0, .int .i64 0, .int .i64 0, .bool false, .int .i64 0, .int .i64 0, .int .i64 0, .int .i64 0, .int .i64 0, .int .i64 0, .int .i64 0, .int .i64 0, .int .i64 0, .int .i64 0, .int .i64 0, .int .i64 0] 37)).alloc (.cells #[.int .i64 0, .int .i64 0, .int .i64 0] 39)
  have O4 := Hi (hal.obj O4.out (fun h => h))
  have PX := Hi (show Pair _ X ⟨L, s, 0, s.size, en⟩ l1 from ⟨PX.out.src.chg hal (fun h => h), PX.out.led.chg hal (fun h => h)⟩)
  have BL := Hi (BL.out.trans (hal.below BL.out.size (fun _ h => h.elim)))
  clear hal
  go_upto_region 9 with (first
    | (refine store_o rfl 37 16 _ _ rfl d9 ([.int .i64 sz, .int .i64 W, .int .i64 Hh, .bool top, .int .i64 dp, .int .i64 mt, .int .i64 co, .int .i64 (m 0), .int .i64 (m 1), .int .i64 (m 2), .int .i64 (m 3), .int .i64 (m 4), .int .i64 (m 5), .int .i64 (m 6), .int .i64 (m 7), .int .i64 0]) rfl rfl (by kernel_rfl) (by kernel_rfl) (by kernel_rfl) O9.out (by first | rfl | simp) ?_; intro ws hst hO; have hcs := Stored.chgS (S := fun k => k = d9) hst (Chg.refl _ _) (Or.inl rfl); have O9 := Hi hO; have O4 := Hi (hcs.obj O4.out (show ¬ d4 = d9 by omega)); have PX := Hi (show Pair _ X ⟨L, s, 0, s.size, en⟩ l1 from ⟨PX.out.src.chg hcs (show ¬ X = d9 by omega), PX.out.led.chg hcs (show ¬ L = d9 by omega)⟩); have O10 := Hi (hcs.obj O10.out (show ¬ (d9 + 1) = d9 by omega)); have BL := Hi (BL.out.trans (hcs.below BL.out.size (fun k hk => by rw [hk]; omega))); clear hst hO hcs)
    | (refine store_o rfl 39 3 _ _ rfl (d9 + 1) [.int .i64 0, .int .i64 0, .int .i64 0] rfl rfl (by kernel_rfl) (by kernel_rfl) (by kernel_rfl) O10.out (by first | rfl | simp) ?_; intro ws hst hO; have hcs := Stored.chgS (S := fun k => k = (d9 + 1)) hst (Chg.refl _ _) (Or.inl rfl); have O10 := Hi hO; have O4 := Hi (hcs.obj O4.out (show ¬ d4 = (d9 + 1) by omega)); have PX := Hi (show Pair _ X ⟨L, s, 0, s.size, en⟩ l1 from ⟨PX.out.src.chg hcs (show ¬ X = (d9 + 1) by omega), PX.out.led.chg hcs (show ¬ L = (d9 + 1) by omega)⟩); have O9 := Hi (hcs.obj O9.out (show ¬ d9 = (d9 + 1) by omega)); have BL := Hi (BL.out.trans (hcs.below BL.out.size (fun k hk => by rw [hk]; omega))); clear hst hO hcs))
  clear hd9
  have q100 := (O10.out.cell 0).trans (show _ = some (.int .i64 0) from rfl)
  have q41 := (O4.out.cell 1).trans (show _ = some (.int .i64 W) from rfl)
  have q91 := (O9.out.cell 1).trans (show _ = some (.int .i64 W) from rfl)
  have q42 := (O4.out.cell 2).trans (show _ = some (.int .i64 Hh) from rfl)
  have q92 := (O9.out.cell 2).trans (show _ = some (.int .i64 Hh) from rfl)
  go_upto_region 11 with (first
    | ((with_reducible refine skip_g rfl ?_ ?_); rfl; intro _))
  clear q100 q41 q42 q91 q92
  have HTB := Hi (fun w0 (h0 : Pair w0 X ⟨L, s, 0, s.size, en⟩ l1) => (show Calls Tryz.prog 19 #[.pointer (some ⟨X, 0, none⟩), .agg (List.toArray [.int .i64 sz, .int .i64 W, .int .i64 Hh, .bool top, .int .i64 dp, .int .i64 mt, .int .i64 co, .int .i64 (m 0), .int .i64 (m 1), .int .i64 (m 2), .int .i64 (m 3), .int .i64 (m 4), .int .i64 (m 5), .int .i64 (m 6), .int .i64 (m 7), .int .i64 0]), .int .i64 f] w0 (fun e w' => (en + nb ≤ s.size → TabOk w0 X ⟨L, s, 0, s.size, en⟩ l1 kd co dp e w') ∧ (s.size < en + nb → TabNo w0 X ⟨L, s, 0, s.size, en⟩ l1 f e w')) from by
    have h := table_rich2 sz W Hh top dp mt co (m 0) (m 1) (m 2) (m 3) (m 4) (m 5) (m 6) (m 7) 0 X ⟨L, s, 0, s.size, en⟩ l1 f kd w0 h0 HB.out.2.2.1 HB.out.2.2.2.1 HKD.out HL1.out.1 (by rw [HL1.out.2.1, HL1.out.2.2.1]; have := HB.out.2.2.2.1; omega) (by have := HL1.out; have := HB.out.2.2.2.1; omega)
    rw [← HNB.out] at h
    exact h))
  have ltB := O10.out.lt
  go_wp2_with (first
    | (refine load_u (by kernel_rfl) 37 16 _ rfl d9 [.int .i64 sz, .int .i64 W, .int .i64 Hh, .bool top, .int .i64 dp, .int .i64 mt, .int .i64 co, .int .i64 (m 0), .int .i64 (m 1), .int .i64 (m 2), .int .i64 (m 3), .int .i64 (m 4), .int .i64 (m 5), .int .i64 (m 6), .int .i64 (m 7), .int .i64 0] rfl rfl O9.out Tryz.underlying37 rfl (by kernel_rfl) ?_; intro _))
  with_reducible refine (HTB.out _ PX.out).mono ?_
  intro e w5 hpo
  by_cases hin : s.size < en + nb
  · skip
    obtain ⟨y, m1, rfl, hP, hyL, hls, hbt, hC⟩ := hpo.2 hin
    clear hpo
    have hC : Chg (fun k => k = X ∨ k = L) _ _ := hC
    have O4 := Hi (hC.obj O4.out (show ¬ (d4 = X ∨ d4 = L) from by omega))
    have O9 := Hi (hC.obj O9.out (show ¬ (d9 = X ∨ d9 = L) from by omega))
    have O10 := Hi (hC.obj O10.out (show ¬ ((d9 + 1) = X ∨ (d9 + 1) = L) from by omega))
    have BL := Hi (BL.out.trans (hC.below BL.out.size (fun k hk => by rcases hk with hk | hk <;> (rw [hk]; assumption))))
    have HLm := Hi (show LedAt w5 L m1 by have := hP.led; rw [show y.L = L from hyL] at this; exact this)
    have HBT := Hi (show m1.bt = 0 by rw [hbt, HL1.out.2.1])
    clear hP hyL hls hbt hC PX
    go_upto_region 12 with (first
      | (refine store_o rfl 39 3 _ _ rfl (d9 + 1) [.int .i64 1, .int .i64 f, .int .i64 s.size] rfl rfl (by kernel_rfl) (by kernel_rfl) (by kernel_rfl) O10.out (by first | rfl | simp) ?_; intro ws hst hO; have hcs := Stored.chgS (S := fun k => k = (d9 + 1)) hst (Chg.refl _ _) (Or.inl rfl); have O10 := Hi hO; have O4 := Hi (hcs.obj O4.out (show ¬ d4 = (d9 + 1) by omega)); have O9 := Hi (hcs.obj O9.out (show ¬ d9 = (d9 + 1) by omega)); have HLm := Hi (HLm.out.chg hcs (show ¬ L = (d9 + 1) by omega)); have BL := Hi (BL.out.trans (hcs.below BL.out.size (fun k hk => by rw [hk]; omega))); clear hst hO hcs))
    have HT := HT21.out
    unfold Table21Post at HT
    simp only [if_pos hin] at HT
    have HT21 := Hi HT
    clear HT
    go_wp2_with (first
      | (refine load_u (by kernel_rfl) 52 15 _ rfl d4 [.int .i64 sz, .int .i64 W, .int .i64 Hh, .bool top, .int .i64 dp, .int .i64 mt, .int .i64 co, .int .i64 r, .int .i64 g, .int .i64 b, .int .i64 q, .int .i64 0, .int .i64 en, .int .i64 0, .int .i64 0] rfl rfl O4.out Tryz.underlying52 rfl (by kernel_rfl) ?_; intro _))
    with_reducible refine (HT21.out _).mono ?_
    rintro e w6 ⟨rfl, hb⟩
    have hC := chg_of_below hb (fun _ => False)
    clear hb
    have O4 := Hi (hC.obj O4.out (fun h => h))
    have O9 := Hi (hC.obj O9.out (fun h => h))
    have O10 := Hi (hC.obj O10.out (fun h => h))
    have HLm := Hi (HLm.out.chg hC (fun h => h))
    have BL := Hi (BL.out.trans (hC.below BL.out.size (fun _ h => h.elim)))
    clear hC
    have ltC := O10.out.lt
    have ltL := HLm.out.lt
    obtain ⟨d12, hd12⟩ : ∃ d, w6.heap.size = d := ⟨_, rfl⟩
    have O12 := Hi (obj1_new w6 #[.int .i64 0, .slice none 0 0, .int .i64 0, .int .i64 0] 56)
    rw [hd12] at O12 ltC ltL
    have hal := (Chg.refl (fun _ => False) w6).alloc (.cells #[.int .i64 0, .slice none 0 0, .int .i64 0, .int .i64 0] 56)
    have O4 := Hi (hal.obj O4.out (fun h => h))
    have O9 := Hi (hal.obj O9.out (fun h => h))
    have O10 := Hi (hal.obj O10.out (fun h => h))
    have HLm := Hi (HLm.out.chg hal (fun h => h))
    have BL := Hi (BL.out.trans (hal.below BL.out.size (fun _ h => h.elim)))
    clear hal
    go_upto_region 13 with (first
      | (refine store_o rfl 56 4 _ _ rfl d12 [.int .i64 0, .slice none 0 0, .int .i64 1, .int .i64 s.size] rfl rfl (by kernel_rfl) (by kernel_rfl) (by kernel_rfl) O12.out (by first | rfl | simp) ?_; intro ws hst hO; have hcs := Stored.chgS (S := fun k => k = d12) hst (Chg.refl _ _) (Or.inl rfl); have O12 := Hi hO; have O4 := Hi (hcs.obj O4.out (show ¬ d4 = d12 by omega)); have O9 := Hi (hcs.obj O9.out (show ¬ d9 = d12 by omega)); have O10 := Hi (hcs.obj O10.out (show ¬ (d9 + 1) = d12 by omega)); have HLm := Hi (HLm.out.chg hcs (show ¬ L = d12 by omega)); have BL := Hi (BL.out.trans (hcs.below BL.out.size (fun k hk => by rw [hk]; omega))); clear hst hO hcs))
    clear hd12
    have q12 := (O12.out.cell 2).trans (show _ = some (.int .i64 1) from rfl)
    have q13 := (O12.out.cell 3).trans (show _ = some (.int .i64 s.size) from rfl)
    have HBY := Hi (fun w0 (h0 : LedAt w0 L m1) => (lbytes_any L m1 w0 h0).mono (R' := fun e w' => e = .returned (.int .i64 0) ∧ w0 = w') fun e w' hh => by rw [HBT.out] at hh; exact hh)
    go_upto_region 14 with (first
      | ((with_reducible refine skip_g rfl ?_ ?_); rfl; intro _))
    go_wp2_with (first
      | ((with_reducible refine skip_g rfl ?_ ?_); rfl; intro _)
      | (refine load_u (by kernel_rfl) 39 3 _ rfl (d9 + 1) [.int .i64 1, .int .i64 f, .int .i64 s.size] rfl rfl O10.out Tryz.underlying39 rfl (by kernel_rfl) ?_; intro _)
      | ((go_at_call 31; (with_reducible refine (HBY.out _ HLm.out).mono ?_); rintro e w9 ⟨rfl, rfl⟩))
      | ((go_at_call 29; (with_reducible refine (awake21 _).mono ?_); rintro e w10 ⟨rfl, hb⟩); have BL := Hi (bthen hb BL.out BL.out.size); clear hb))
    go_ret
    exact ⟨rfl, BL.out⟩
  · skip
    obtain ⟨ov, P, pp, l2, rfl, hov, hpt, hP, hls, hbt1, hbt2, hst1, hst2, hC⟩ := hpo.1 (by omega)
    clear hpo
    have hC : Chg (fun k => k = X ∨ k = L) _ _ := hC
    have HL2 := Hi (show l2.br = false ∧ l2.mw = 60 ∧ l2.mh = 60 ∧ l2.mb = 20000 ∧ l2.mx = 100000 ∧ 0 ≤ l2.bt ∧ l2.bt ≤ 1024 ∧ 0 ≤ l2.st ∧ l2.st ≤ 260 by
      obtain ⟨a1, a2, a3, a4, a5, a6, a7, a8⟩ := HL1.out
      have hco := HB.out.2.2.2.1
      exact ⟨hls.br, by rw [hls.mw, a4], by rw [hls.mh, a5], by rw [hls.mb, a3], by rw [hls.mx, a6], by omega, by omega, by omega, by omega⟩)
    obtain ⟨pl, hpl⟩ : ∃ n, n = en + nb := ⟨_, rfl⟩
    have HPL := Hi hpl
    have hple : pl ≤ s.size := by omega
    have hP : Pair w5 X ⟨L, s, 0, s.size, pl⟩ l2 := by rw [hpl, HNB.out]; exact hP
    have HOV := Hi hov
    have HOC := Hi (show (ov = some ⟨P, 0, none⟩ ∧ dp ≤ 8) ∨ (ov = none ∧ ¬ dp ≤ 8) by
      by_cases h8 : dp ≤ 8
      · rw [decide_eq_true h8, if_pos rfl] at hov; exact Or.inl ⟨hov, h8⟩
      · rw [decide_eq_false h8, if_neg (by decide)] at hov; exact Or.inr ⟨hov, h8⟩)
    have O4 := Hi (hC.obj O4.out (show ¬ (d4 = X ∨ d4 = L) from by omega))
    have O9 := Hi (hC.obj O9.out (show ¬ (d9 = X ∨ d9 = L) from by omega))
    have O10 := Hi (hC.obj O10.out (show ¬ ((d9 + 1) = X ∨ (d9 + 1) = L) from by omega))
    have BL := Hi (BL.out.trans (hC.below BL.out.size (fun k hk => by rcases hk with hk | hk <;> (rw [hk]; assumption))))
    have PX := Hi hP
    obtain ⟨hz, hhz⟩ : ∃ z, w5.heap.size = z := ⟨_, rfl⟩
    have HPT := Hi (show dp ≤ 8 → PalAt w5 P pp ∧ d9 + 1 < P ∧ d9 + 1 < pp.B ∧ d9 + 1 < pp.b.g ∧ (P < hz ∧ pp.B < hz ∧ pp.b.g < hz) ∧ TabOf s en kd co L pp from fun h8 => by
      obtain ⟨t1, t2, t3, t4, t5⟩ := hpt h8
      exact ⟨t1, by omega, by omega, by omega, ⟨by rw [← hhz]; exact t1.lt, by rw [← hhz]; exact t1.buf.lt, by rw [← hhz]; exact t1.buf.glt t1.opn⟩, t5⟩)
    have HZ1 := Hi (show hz ≤ w5.heap.size by omega)
    clear hpl hP hpt hov hls hbt1 hbt2 hst1 hst2 hC hhz ltB
    go_upto_region 12 with (first
      | (refine store_o rfl 39 3 _ _ rfl (d9 + 1) [.int .i64 0, .int .i64 0, .int .i64 0] rfl rfl (by kernel_rfl) (by kernel_rfl) (by kernel_rfl) O10.out (by first | rfl | simp) ?_; intro ws hst hO; have hcs := Stored.chgS (S := fun k => k = (d9 + 1)) hst (Chg.refl _ _) (Or.inl rfl); have O10 := Hi hO; have O4 := Hi (hcs.obj O4.out (show ¬ d4 = (d9 + 1) by omega)); have O9 := Hi (hcs.obj O9.out (show ¬ d9 = (d9 + 1) by omega)); have PX := Hi (show Pair _ X ⟨L, s, 0, s.size, pl⟩ l2 from ⟨PX.out.src.chg hcs (show ¬ X = (d9 + 1) by omega), PX.out.led.chg hcs (show ¬ L = (d9 + 1) by omega)⟩); have BL := Hi (BL.out.trans (hcs.below BL.out.size (fun k hk => by rw [hk]; omega))); have HPT := Hi (show dp ≤ 8 → PalAt ws P pp ∧ d9 + 1 < P ∧ d9 + 1 < pp.B ∧ d9 + 1 < pp.b.g ∧ (P < hz ∧ pp.B < hz ∧ pp.b.g < hz) ∧ TabOf s en kd co L pp from fun h8 => ⟨(HPT.out h8).1.chg hcs (by have := HPT.out h8; omega) (by have := HPT.out h8; omega) (by have := HPT.out h8; omega), (HPT.out h8).2⟩); have HZ1 := Hi (Nat.le_trans HZ1.out hcs.size); clear hst hO hcs))
    have HT := HT21.out
    unfold Table21Post at HT
    simp only [if_neg hin] at HT
    have HT21 := Hi HT
    clear HT
    have ltC := O10.out.lt
    go_wp2_with (first
      | (refine load_u (by kernel_rfl) 52 15 _ rfl d4 [.int .i64 sz, .int .i64 W, .int .i64 Hh, .bool top, .int .i64 dp, .int .i64 mt, .int .i64 co, .int .i64 r, .int .i64 g, .int .i64 b, .int .i64 q, .int .i64 0, .int .i64 en, .int .i64 0, .int .i64 0] rfl rfl O4.out Tryz.underlying52 rfl (by kernel_rfl) ?_; intro _))
    with_reducible refine (HT21.out _).mono ?_
    intro e w6 hpo
    obtain ⟨hpo, hb⟩ := hpo
    obtain ⟨la, ln, lc, rfl, hlv⟩ : ∃ la ln lc, e = .returned (.agg (List.toArray [.int .i64 ((en : Int) + (nb : Int)), .slice la ln lc, .int .i64 0, .int .i64 0])) ∧ (dp ≤ 8 → ∃ gt ct bt, Value.slice la ln lc = .slice (some ⟨gt, 0, none⟩) co ct ∧ d9 + 1 < gt ∧ gt < w6.heap.size ∧ w6.ownsRow bt 185 4 (.slice (some ⟨gt, 0, none⟩) co ct) co (colsL (s.extract en s.size) kd co)) := by
      by_cases h8 : dp ≤ 8
      · rw [if_pos h8] at hpo
        obtain ⟨v, he, how⟩ := hpo
        obtain ⟨gt, ct, rfl, hg1, hg2⟩ := owns_form4 how (by have := HB.out.2.2.1 h8; omega)
        exact ⟨some ⟨gt, 0, none⟩, co, ct, he, fun _ => ⟨gt, ct, _, rfl, by omega, hg2, how⟩⟩
      · rw [if_neg h8] at hpo
        exact ⟨none, 0, 0, hpo, fun h => absurd h h8⟩
    rw [show (en : Int) + (nb : Int) = (pl : Int) by rw [HPL.out]; omega]
    clear hpo
    have hC := chg_of_below hb (fun _ => False)
    clear hb
    have O4 := Hi (hC.obj O4.out (fun h => h))
    have O9 := Hi (hC.obj O9.out (fun h => h))
    have O10 := Hi (hC.obj O10.out (fun h => h))
    have PX := Hi (show Pair _ X ⟨L, s, 0, s.size, pl⟩ l2 from ⟨PX.out.src.chg hC (fun h => h), PX.out.led.chg hC (fun h => h)⟩)
    have BL := Hi (BL.out.trans (hC.below BL.out.size (fun _ h => h.elim)))
    have HPT := Hi (show dp ≤ 8 → PalAt w6 P pp ∧ d9 + 1 < P ∧ d9 + 1 < pp.B ∧ d9 + 1 < pp.b.g ∧ (P < hz ∧ pp.B < hz ∧ pp.b.g < hz) ∧ TabOf s en kd co L pp from fun h8 => ⟨(HPT.out h8).1.chg hC (fun h => h) (fun h => h) (fun h => h), (HPT.out h8).2⟩)
    have HZ1 := Hi (Nat.le_trans HZ1.out hC.size)
    have HLV := Hi hlv
    clear hC hlv ltC
    have n0 := O10.out.lt
    have n1 := PX.out.src.lt
    obtain ⟨d12, hd12⟩ : ∃ d, w6.heap.size = d := ⟨_, rfl⟩
    have n2 := HZ1.out
    have O12 := Hi (obj1_new w6 #[.int .i64 0, .slice none 0 0, .int .i64 0, .int .i64 0] 56)
    rw [hd12] at O12 n0 n1 n2
    have hal := (Chg.refl (fun _ => False) w6).alloc (.cells #[.int .i64 0, .slice none 0 0, .int .i64 0, .int .i64 0] 56)
    have HLV := Hi (show dp ≤ 8 → ∃ gt ct bt, Value.slice la ln lc = .slice (some ⟨gt, 0, none⟩) co ct ∧ d9 + 1 < gt ∧ gt < d12 ∧ (w6.alloc (.cells #[.int .i64 0, .slice none 0 0, .int .i64 0, .int .i64 0] 56)).ownsRow bt 185 4 (.slice (some ⟨gt, 0, none⟩) co ct) co (colsL (s.extract en s.size) kd co) from fun h8 => by
      obtain ⟨gt, ct, bt, e1, e2, e3, e4⟩ := HLV.out h8
      exact ⟨gt, ct, bt, e1, e2, by rw [← hd12]; exact e3, owns_chgw e4 hal (fun h => h)⟩)
    have O4 := Hi (hal.obj O4.out (fun h => h))
    have O9 := Hi (hal.obj O9.out (fun h => h))
    have O10 := Hi (hal.obj O10.out (fun h => h))
    have PX := Hi (show Pair _ X ⟨L, s, 0, s.size, pl⟩ l2 from ⟨PX.out.src.chg hal (fun h => h), PX.out.led.chg hal (fun h => h)⟩)
    have BL := Hi (BL.out.trans (hal.below BL.out.size (fun _ h => h.elim)))
    have HPT := Hi (show dp ≤ 8 → PalAt (w6.alloc (.cells #[.int .i64 0, .slice none 0 0, .int .i64 0, .int .i64 0] 56)) P pp ∧ d9 + 1 < P ∧ d9 + 1 < pp.B ∧ d9 + 1 < pp.b.g ∧ (P < hz ∧ pp.B < hz ∧ pp.b.g < hz) ∧ TabOf s en kd co L pp from fun h8 => ⟨(HPT.out h8).1.chg hal (fun h => h) (fun h => h) (fun h => h), (HPT.out h8).2⟩)
    have HZ1 := Hi (Nat.le_trans HZ1.out hal.size)
    clear hal
    go_upto_region 13 with (first
      | (refine store_o rfl 56 4 _ _ rfl d12 [.int .i64 pl, .slice la ln lc, .int .i64 0, .int .i64 0] rfl rfl (by kernel_rfl) (by kernel_rfl) (by kernel_rfl) O12.out (by first | rfl | simp) ?_; intro ws hst hO; have hcs := Stored.chgS (S := fun k => k = d12) hst (Chg.refl _ _) (Or.inl rfl); have O12 := Hi hO; have O4 := Hi (hcs.obj O4.out (show ¬ d4 = d12 by omega)); have O9 := Hi (hcs.obj O9.out (show ¬ d9 = d12 by omega)); have O10 := Hi (hcs.obj O10.out (show ¬ (d9 + 1) = d12 by omega)); have PX := Hi (show Pair _ X ⟨L, s, 0, s.size, pl⟩ l2 from ⟨PX.out.src.chg hcs (show ¬ X = d12 by omega), PX.out.led.chg hcs (show ¬ L = d12 by omega)⟩); have BL := Hi (BL.out.trans (hcs.below BL.out.size (fun k hk => by rw [hk]; omega))); have HPT := Hi (show dp ≤ 8 → PalAt ws P pp ∧ d9 + 1 < P ∧ d9 + 1 < pp.B ∧ d9 + 1 < pp.b.g ∧ (P < hz ∧ pp.B < hz ∧ pp.b.g < hz) ∧ TabOf s en kd co L pp from fun h8 => ⟨(HPT.out h8).1.chg hcs (by have := HPT.out h8; omega) (by have := HPT.out h8; omega) (by have := HPT.out h8; omega), (HPT.out h8).2⟩); have HLV := Hi (show dp ≤ 8 → ∃ gt ct bt, Value.slice la ln lc = .slice (some ⟨gt, 0, none⟩) co ct ∧ d9 + 1 < gt ∧ gt < d12 ∧ ws.ownsRow bt 185 4 (.slice (some ⟨gt, 0, none⟩) co ct) co (colsL (s.extract en s.size) kd co) from fun h8 => by obtain ⟨gt, ct, bt, e1, e2, e3, e4⟩ := HLV.out h8; exact ⟨gt, ct, bt, e1, e2, e3, owns_chgw e4 hcs (show ¬ gt = d12 by omega)⟩); have HZ1 := Hi (Nat.le_trans HZ1.out hcs.size); clear hst hO hcs))
    clear hd12
    have q12 := (O12.out.cell 2).trans (show _ = some (.int .i64 0) from rfl)
    go_upto_region 15 with (fail)
    clear q12
    obtain ⟨b8, hb8⟩ : ∃ b, decide ((dp : Int) ≤ 8) = b := ⟨_, rfl⟩
    have HB8 := Hi (show (ov = some ⟨P, 0, none⟩ ∧ b8 = true) ∨ (ov = none ∧ b8 = false) by
      rcases HOC.out with ⟨h1, h2⟩ | ⟨h1, h2⟩
      · exact Or.inl ⟨h1, by rw [← hb8]; exact decide_eq_true (by omega)⟩
      · exact Or.inr ⟨h1, by rw [← hb8]; exact decide_eq_false (by omega)⟩)
    obtain ⟨wr, hwr⟩ : ∃ z, z = ws := ⟨_, rfl⟩
    have HAT := Hi (fun w0 (h0 : SrcAt w0 X ⟨L, s, 0, s.size, pl⟩) => (at_any X ⟨L, s, 0, s.size, pl⟩ w0 h0).mono (R' := fun e w' => e = .returned (.int .i64 pl) ∧ w' = w0) fun e w' hh => ⟨hh.1, hh.2.symm⟩)
    skip
    refine wp_region_noPanic ?_
    refine wp_region_held_drew (S := fun w' => Chg (fun _ => False) ws w') (by kernel_rfl) (Chg.refl _ _).drew (fun hHeld => ?_)
    refine wpAnyH_take (i := 0) (v := .pointer (some ⟨d9 + 1, 0, none⟩)) rfl (by kernel_rfl) (by kernel_rfl) (by kernel_rfl) (fun _ _ _ h => h) (Or.inl ⟨by rfl, fun w hS => by (go_simp) <;> first | rfl | assumption | (intro hh; exfalso; omega) | (exact (i64_wraps _ (by omega) (by omega)).trans (by omega)) | omega⟩) hHeld ?_
    simp only [Act.put, zq1, zq2, zq3, zq4, zq5, zq6]
    refine wpAnyH_take (i := 1) (v := .int .i64 0) rfl (by kernel_rfl) (by kernel_rfl) (by kernel_rfl) (fun _ _ _ h => h) (Or.inl ⟨by rfl, fun w hS => by (have hc : w.cell? ⟨d9 + 1, 0, none⟩ = some (.int .i64 0) := (hS.cell (b := d9 + 1) (o := 0) O10.out.lt (fun h => h)).trans ((O10.out.cell 0).trans rfl); go_simp)⟩) hHeld ?_
    simp only [Act.put, zq1, zq2, zq3, zq4, zq5, zq6]
    refine wpAnyH_take (i := 2) (v := .bool false) rfl (by kernel_rfl) (by kernel_rfl) (by kernel_rfl) (fun _ _ _ h => h) (Or.inl ⟨by rfl, fun w hS => by go_simp⟩) hHeld ?_
    simp only [Act.put, zq1, zq2, zq3, zq4, zq5, zq6]
    refine wpAnyH_take (i := 3) (v := .bool false) rfl (by kernel_rfl) (by kernel_rfl) (by kernel_rfl) (fun _ _ _ h => h) (Or.inl ⟨by rfl, fun w hS => by go_simp⟩) hHeld ?_
    simp only [Act.put, zq1, zq2, zq3, zq4, zq5, zq6]
    refine wpAnyH_take (i := 4) (v := .pointer (some ⟨X, 0, none⟩)) rfl (by kernel_rfl) (by kernel_rfl) (by kernel_rfl) (fun _ _ _ h => h) (Or.inl ⟨by rfl, fun w hS => by (go_simp) <;> first | rfl | assumption | (intro hh; exfalso; omega) | (exact (i64_wraps _ (by omega) (by omega)).trans (by omega)) | omega⟩) hHeld ?_
    simp only [Act.put, zq1, zq2, zq3, zq4, zq5, zq6]
    refine wpAnyH_call2 (i := 5) (v := .int .i64 (pl : Int)) rfl (by kernel_rfl) (by kernel_rfl) (by kernel_rfl) (fun _ _ _ h => h) (Or.inr ⟨by rfl, fun wx hS => ⟨32, #[.pointer (some ⟨X, 0, none⟩)], by kernel_rfl, HAT.out wx (PX.out.src.chg hS (fun h => h))⟩⟩) hHeld ?_
    simp only [Act.put, zq1, zq2, zq3, zq4, zq5, zq6]
    refine wpAnyH_take (i := 6) (v := .pointer (some ⟨d12, 0, none⟩)) rfl (by kernel_rfl) (by kernel_rfl) (by kernel_rfl) (fun _ _ _ h => h) (Or.inl ⟨by rfl, fun w hS => by (go_simp) <;> first | rfl | assumption | (intro hh; exfalso; omega) | (exact (i64_wraps _ (by omega) (by omega)).trans (by omega)) | omega⟩) hHeld ?_
    simp only [Act.put, zq1, zq2, zq3, zq4, zq5, zq6]
    refine wpAnyH_take (i := 7) (v := .int .i64 (pl : Int)) rfl (by kernel_rfl) (by kernel_rfl) (by kernel_rfl) (fun _ _ _ h => h) (Or.inl ⟨by rfl, fun w hS => by (have hc : w.cell? ⟨d12, 0, none⟩ = some (.int .i64 (pl : Int)) := (hS.cell (b := d12) (o := 0) O12.out.lt (fun h => h)).trans ((O12.out.cell 0).trans rfl); go_simp)⟩) hHeld ?_
    simp only [Act.put, zq1, zq2, zq3, zq4, zq5, zq6]
    refine wpAnyH_take (i := 8) (v := .bool false) rfl (by kernel_rfl) (by kernel_rfl) (by kernel_rfl) (fun _ _ _ h => h) (Or.inl ⟨by rfl, fun w hS => by go_simp⟩) hHeld ?_
    simp only [Act.put, zq1, zq2, zq3, zq4, zq5, zq6]
    refine wpAnyH_take (i := 9) (v := .bool false) rfl (by kernel_rfl) (by kernel_rfl) (by kernel_rfl) (fun _ _ _ h => h) (Or.inl ⟨by rfl, fun w hS => by go_simp⟩) hHeld ?_
    simp only [Act.put, zq1, zq2, zq3, zq4, zq5, zq6]
    refine wpAnyH_take (i := 10) (v := .bool false) rfl (by kernel_rfl) (by kernel_rfl) (by kernel_rfl) (fun _ _ _ h => h) (Or.inl ⟨by rfl, fun w hS => by go_simp⟩) hHeld ?_
    simp only [Act.put, zq1, zq2, zq3, zq4, zq5, zq6]
    refine wpAnyH_take (i := 11) (v := .pointer ov) rfl (by kernel_rfl) (by kernel_rfl) (by kernel_rfl) (fun _ _ _ h => h) (Or.inl ⟨by rfl, fun w hS => by (go_simp) <;> first | rfl | assumption | (intro hh; exfalso; omega) | (exact (i64_wraps _ (by omega) (by omega)).trans (by omega)) | omega⟩) hHeld ?_
    simp only [Act.put, zq1, zq2, zq3, zq4, zq5, zq6]
    refine wpAnyH_take (i := 12) (v := .bool b8) rfl (by kernel_rfl) (by kernel_rfl) (by kernel_rfl) (fun _ _ _ h => h) (Or.inl ⟨by rfl, fun w hS => by (rcases HB8.out with ⟨h1, h2⟩ | ⟨h1, h2⟩ <;> (subst h1; subst h2; go_simp))⟩) hHeld ?_
    simp only [Act.put, zq1, zq2, zq3, zq4, zq5, zq6]
    refine wpAnyH_take (i := 13) (v := .pointer (some ⟨d4, 4, none⟩)) rfl (by kernel_rfl) (by kernel_rfl) (by kernel_rfl) (fun _ _ _ h => h) (Or.inl ⟨by rfl, fun w hS => by (go_simp) <;> first | rfl | assumption | (intro hh; exfalso; omega) | (exact (i64_wraps _ (by omega) (by omega)).trans (by omega)) | omega⟩) hHeld ?_
    simp only [Act.put, zq1, zq2, zq3, zq4, zq5, zq6]
    refine wpAnyH_take (i := 14) (v := .int .i64 (dp : Int)) rfl (by kernel_rfl) (by kernel_rfl) (by kernel_rfl) (fun _ _ _ h => h) (Or.inl ⟨by rfl, fun w hS => by (have hc : w.cell? ⟨d4, 4, none⟩ = some (.int .i64 (dp : Int)) := (hS.cell (b := d4) (o := 4) O4.out.lt (fun h => h)).trans ((O4.out.cell 4).trans rfl); go_simp)⟩) hHeld ?_
    simp only [Act.put, zq1, zq2, zq3, zq4, zq5, zq6]
    refine wpAnyH_take (i := 15) (v := .bool b8) rfl (by kernel_rfl) (by kernel_rfl) (by kernel_rfl) (fun _ _ _ h => h) (Or.inl ⟨by rfl, fun w hS => by go_simp⟩) hHeld ?_
    simp only [Act.put, zq1, zq2, zq3, zq4, zq5, zq6]
    refine wpAnyH_take (i := 16) (v := .bool false) rfl (by kernel_rfl) (by kernel_rfl) (by kernel_rfl) (fun _ _ _ h => h) (Or.inl ⟨by rfl, fun w hS => by (rcases HB8.out with ⟨h1, h2⟩ | ⟨h1, h2⟩ <;> (subst h2; go_simp))⟩) hHeld ?_
    simp only [Act.put, zq1, zq2, zq3, zq4, zq5, zq6]
    refine wpAnyH_take (i := 17) (v := .bool false) rfl (by kernel_rfl) (by kernel_rfl) (by kernel_rfl) (fun _ _ _ h => h) (Or.inl ⟨by rfl, fun w hS => by go_simp⟩) hHeld ?_
    simp only [Act.put, zq1, zq2, zq3, zq4, zq5, zq6]
    have hC := (Chg.refl (fun _ => False) ws).drew
    generalize World.drew _ = wk at hC ⊢
    refine wpAnyH_done (by kernel_rfl) ?_ _
    refine NoPanic.normal ?_
    have O4 := Hi (hC.obj O4.out (fun h => h))
    have O9 := Hi (hC.obj O9.out (fun h => h))
    have O10 := Hi (hC.obj O10.out (fun h => h))
    have PX := Hi (show Pair _ X ⟨L, s, 0, s.size, pl⟩ l2 from ⟨PX.out.src.chg hC (fun h => h), PX.out.led.chg hC (fun h => h)⟩)
    have O12 := Hi (hC.obj O12.out (fun h => h))
    have BL := Hi (BL.out.trans (hC.below BL.out.size (fun _ h => h.elim)))
    have HPT := Hi (show dp ≤ 8 → PalAt wk P pp ∧ d9 + 1 < P ∧ d9 + 1 < pp.B ∧ d9 + 1 < pp.b.g ∧ (P < hz ∧ pp.B < hz ∧ pp.b.g < hz) ∧ TabOf s en kd co L pp from fun h8 => ⟨(HPT.out h8).1.chg hC (fun h => h) (fun h => h) (fun h => h), (HPT.out h8).2⟩)
    have HLV := Hi (show dp ≤ 8 → ∃ gt ct bt, Value.slice la ln lc = .slice (some ⟨gt, 0, none⟩) co ct ∧ d9 + 1 < gt ∧ gt < d12 ∧ wk.ownsRow bt 185 4 (.slice (some ⟨gt, 0, none⟩) co ct) co (colsL (s.extract en s.size) kd co) from fun h8 => by obtain ⟨gt, ct, bt, e1, e2, e3, e4⟩ := HLV.out h8; exact ⟨gt, ct, bt, e1, e2, e3, owns_chgw e4 hC (fun h => h)⟩)
    have HZ1 := Hi (Nat.le_trans HZ1.out hC.size)
    clear hC hwr hb8
    have q41 := (O4.out.cell 1).trans (show _ = some (.int .i64 W) from rfl)
    have q42 := (O4.out.cell 2).trans (show _ = some (.int .i64 Hh) from rfl)
    have hWH : W * Hh ≤ 3600 := Nat.mul_le_mul hW2 hH2
    have HWH := Hi hWH
    clear hWH
    have HRN := Hi (fun w0 (h0 : LedAt w0 L l2) => (show Calls Tryz.prog 20 #[.pointer (some ⟨L, 0, none⟩), .int .i64 W, .int .i64 Hh] w0 (RasGood w0 L l2 W Hh) from
      ras_rich L l2 W Hh w0 h0 HL2.out.1 HB.out.1 (by rw [HL2.out.2.1]; omega) HB.out.2.1 (by rw [HL2.out.2.2.1]; omega) (by rw [HL2.out.2.1, HL2.out.2.2.1]; decide) (by have := HL2.out; have := HWH.out; omega)))
    have k0 := O12.out.lt
    go_wp2_with fail
    with_reducible refine (HRN.out _ PX.out.led).mono ?_
    rintro e w7 ⟨RR, rB, rg, rfl, hL, hras, hR1, hR2, hR3, hC⟩
    clear q41 q42
    have hC : Chg (fun k => k = L) _ _ := hC
    have n3 := HZ1.out
    obtain ⟨l3, hl3⟩ : ∃ l3 : Led, (l2.take ((W * Hh * 4 : Nat) : Int)).1 = l3 := ⟨_, rfl⟩
    rw [hl3] at hL
    have HL3 := Hi (show l3.br = false ∧ l3.mx = 100000 ∧ 0 ≤ l3.st ∧ l3.st ≤ 260 by
      obtain ⟨a1, a2, a3, a4, a5, a6, a7, a8, a9⟩ := HL2.out
      have hw := HWH.out
      have htk : (l2.take ((W * Hh * 4 : Nat) : Int)).1 = { l2 with bt := l2.bt + ((W * Hh * 4 : Nat) : Int), pk := if l2.bt + ((W * Hh * 4 : Nat) : Int) ≤ l2.pk then l2.pk else l2.bt + ((W * Hh * 4 : Nat) : Int) } := by
        unfold Led.take; rw [if_neg (by rw [a1]; decide), if_neg (by omega)]
      rw [← hl3, htk]
      exact ⟨a1, a5, a8, a9⟩)
    have PY := Hi (show Pair w7 X ⟨L, s, 0, s.size, pl⟩ l3 from ⟨PX.out.src.chg hC (show ¬ X = L by omega), hL⟩)
    have HPT := Hi (show dp ≤ 8 → PalAt w7 P pp ∧ d9 + 1 < P ∧ d9 + 1 < pp.B ∧ d9 + 1 < pp.b.g ∧ (P < hz ∧ pp.B < hz ∧ pp.b.g < hz) ∧ TabOf s en kd co L pp from fun h8 => ⟨(HPT.out h8).1.chg hC (show ¬ P = L by have := HPT.out h8; omega) (show ¬ pp.B = L by have := HPT.out h8; omega) (show ¬ pp.b.g = L by have := HPT.out h8; omega), (HPT.out h8).2⟩)
    have HLV := Hi (show dp ≤ 8 → ∃ gt ct bt, Value.slice la ln lc = .slice (some ⟨gt, 0, none⟩) co ct ∧ d9 + 1 < gt ∧ gt < d12 ∧ w7.ownsRow bt 185 4 (.slice (some ⟨gt, 0, none⟩) co ct) co (colsL (s.extract en s.size) kd co) from fun h8 => by obtain ⟨gt, ct, bt, e1, e2, e3, e4⟩ := HLV.out h8; exact ⟨gt, ct, bt, e1, e2, e3, owns_chgw e4 hC (show ¬ gt = L by omega)⟩)
    have O4 := Hi (hC.obj O4.out (show ¬ d4 = L by omega))
    have O9 := Hi (hC.obj O9.out (show ¬ d9 = L by omega))
    have O10 := Hi (hC.obj O10.out (show ¬ (d9 + 1) = L by omega))
    have O12 := Hi (hC.obj O12.out (show ¬ d12 = L by omega))
    have BL := Hi (BL.out.trans (hC.below BL.out.size (fun k hk => by rw [hk]; omega)))
    have PX := Hi PY.out
    have HRAS := Hi hras
    have r1 : d12 < RR := by omega
    have r2 : d12 < rB := by omega
    have r3 : d12 < rg := by omega
    have HAP := Hi (show RowApart X (decide (dp ≤ 8)) P RR ⟨L, s, 0, s.size, pl⟩ pp ⟨L, W, Hh, rB, true, ⟨L, rg, zeros8 (W * Hh * 4), true⟩⟩ from
      ⟨rfl, by show X ≠ rg; omega, by omega, by show rB ≠ X; omega, fun e => by have := HPT.out (of_decide_eq_true e); exact ⟨by omega, by show P ≠ L; omega, by show P ≠ rg; omega⟩, fun e => by have := HPT.out (of_decide_eq_true e); exact ⟨by omega, by show pp.B ≠ L; omega, by show pp.B ≠ rg; omega⟩, fun e => by have := HPT.out (of_decide_eq_true e); exact ⟨by omega, by show pp.b.g ≠ L; omega, by show pp.b.g ≠ rg; omega⟩⟩)
    clear hL hras hR1 hR2 hR3 hC hl3 PY k0
    go_upto_region 20 with (first
      | ((with_reducible refine skip_g rfl ?_ ?_); rfl; intro _))
    have HRL := Hi (fun w0 (h0 : Pair w0 X ⟨L, s, 0, s.size, pl⟩ l3) (h1 : dp ≤ 8 → PalAt w0 P pp) (h2 : RasAt w0 RR ⟨L, W, Hh, rB, true, ⟨L, rg, zeros8 (W * Hh * 4), true⟩⟩) =>
      (show Calls Tryz.prog 30 #[.pointer (some ⟨X, 0, none⟩), .agg (List.toArray [.int .i64 sz, .int .i64 W, .int .i64 Hh, .bool top, .int .i64 dp, .int .i64 mt, .int .i64 co, .int .i64 (m 0), .int .i64 (m 1), .int .i64 (m 2), .int .i64 (m 3), .int .i64 (m 4), .int .i64 (m 5), .int .i64 (m 6), .int .i64 (m 7), .int .i64 0]), .pointer ov, .agg (List.toArray [.int .i64 (m 0), .int .i64 (m 1), .int .i64 (m 2), .int .i64 (m 3), .int .i64 (m 4), .int .i64 (m 5), .int .i64 (m 6), .int .i64 (m 7)]), .pointer (some ⟨RR, 0, none⟩), .int .i64 f] w0 (RowsRich w0 X RR ⟨L, s, 0, s.size, pl⟩ l3 ⟨L, W, Hh, rB, true, ⟨L, rg, zeros8 (W * Hh * 4), true⟩⟩ ⟨W, Hh, top, dp, r, g, b, q⟩ (colsL (s.extract en s.size) kd co) co f) from
        rows_rich X P RR sz ⟨W, Hh, top, dp, r, g, b, q⟩ mt co 0 f m ⟨L, s, 0, s.size, pl⟩ l3 pp ⟨L, W, Hh, rB, true, ⟨L, rg, zeros8 (W * Hh * 4), true⟩⟩ ov kd en co w0 HOV.out h0 h1 h2 HAP.out rfl rfl rfl HDK.out HPR.out.1 HPR.out.2.1 HPR.out.2.2.1 HPR.out.2.2.2 HK34.out (fun h8 => (HPT.out h8).2.2.2.2.2) (by show en + kd * co ≤ s.size; rw [← HNB.out]; omega) HL3.out.1
          (by have := HL3.out; have hm : Hh * (2 * W + 1) ≤ 60 * 121 := Nat.mul_le_mul hH2 (by omega); show l3.st + ((Hh * (2 * W + 1) : Nat) : Int) < l3.mx; omega)))
    go_wp2_with (first
      | (refine load_u (by kernel_rfl) 37 16 _ rfl d9 [.int .i64 sz, .int .i64 W, .int .i64 Hh, .bool top, .int .i64 dp, .int .i64 mt, .int .i64 co, .int .i64 (m 0), .int .i64 (m 1), .int .i64 (m 2), .int .i64 (m 3), .int .i64 (m 4), .int .i64 (m 5), .int .i64 (m 6), .int .i64 (m 7), .int .i64 0] rfl rfl O9.out Tryz.underlying37 rfl (by kernel_rfl) ?_; intro _)
      | (refine load_ag (by kernel_rfl) 35 _ rfl d9 7 [.int .i64 (m 0), .int .i64 (m 1), .int .i64 (m 2), .int .i64 (m 3), .int .i64 (m 4), .int .i64 (m 5), .int .i64 (m 6), .int .i64 (m 7)] rfl O9.out rfl Tryz.underlying35 rfl (by kernel_rfl) ?_; intro _))
    with_reducible refine (HRL.out _ PX.out (fun h8 => (HPT.out h8).1) HRAS.out).mono ?_
    rintro e w8 ⟨⟨y, m2, dd, k, t, rfl, hP, hyL, hra2, hm, hk, hmt⟩, hC⟩
    have hC : Chg (fun k => k = X ∨ k = L ∨ k = rg) _ _ := hC
    have hrgw : w.heap.size ≤ rg := by omega
    have HLV := Hi (show dp ≤ 8 → ∃ gt ct bt, Value.slice la ln lc = .slice (some ⟨gt, 0, none⟩) co ct ∧ d9 + 1 < gt ∧ gt < d12 ∧ w8.ownsRow bt 185 4 (.slice (some ⟨gt, 0, none⟩) co ct) co (colsL (s.extract en s.size) kd co) from fun h8 => by obtain ⟨gt, ct, bt, e1, e2, e3, e4⟩ := HLV.out h8; exact ⟨gt, ct, bt, e1, e2, e3, owns_chgw e4 hC (show ¬ (gt = X ∨ gt = L ∨ gt = rg) by omega)⟩)
    have O4 := Hi (hC.obj O4.out (show ¬ (d4 = X ∨ d4 = L ∨ d4 = rg) from by omega))
    have O10 := Hi (hC.obj O10.out (show ¬ ((d9 + 1) = X ∨ (d9 + 1) = L ∨ (d9 + 1) = rg) from by omega))
    have O12 := Hi (hC.obj O12.out (show ¬ (d12 = X ∨ d12 = L ∨ d12 = rg) from by omega))
    have BL := Hi (BL.out.trans (hC.below BL.out.size (fun k hk => by rcases hk with hk | hk | hk; (rw [hk]; assumption); (have hk : k = L := hk; rw [hk]; assumption); (have hk : k = rg := hk; rw [hk]; assumption))))
    have HRAS := Hi (show RasAt w8 RR ⟨L, W, Hh, rB, true, ⟨L, rg, dd, true⟩⟩ from hra2)
    have HY := Hi (show SrcAt w8 X y from hP.src)
    obtain ⟨RV, hRV⟩ : ∃ R, rows21 ⟨W, Hh, top, dp, r, g, b, q⟩ s (colsL (s.extract en s.size) kd co) co s.size pl Hh 0 (zC (W * Hh)) = R := ⟨_, rfl⟩
    have hmt : RowSays (rows21 ⟨W, Hh, top, dp, r, g, b, q⟩ s (colsL (s.extract en s.size) kd co) co s.size pl Hh 0 (u8s (zeros8 (W * Hh * 4)))) t dd (y = ⟨L, s, 0, s.size, pl + Hh * strideN W dp⟩) := hmt
    rw [zC_zeros2, hRV] at hmt
    have HR22 := Hi (fun w0 (h0 : dp ≤ 8 → ∃ gt ct bt, Value.slice la ln lc = .slice (some ⟨gt, 0, none⟩) co ct ∧ w0.ownsRow bt 185 4 (.slice (some ⟨gt, 0, none⟩) co ct) co (colsL (s.extract en s.size) kd co)) => (show Calls Tryz.prog 33 #[.string s, .int .i64 pl, .int .i64 s.size, .agg (List.toArray [.int .i64 sz, .int .i64 W, .int .i64 Hh, .bool top, .int .i64 dp, .int .i64 mt, .int .i64 co, .int .i64 r, .int .i64 g, .int .i64 b, .int .i64 q, .int .i64 0, .int .i64 en, .int .i64 0, .int .i64 0]), .slice la ln lc] w0 (Read22Post w0 W Hh (W * Hh) RV) from by
      have h := rows21_any sz W Hh top dp mt co r g b q 0 en s pl s.size (W * Hh) co (.slice la ln lc) (colsL (s.extract en s.size) kd co) w0 rfl
        ⟨by omega, by omega, HB.out.1, HB.out.2.1, HDK.out, HPR.out.1.2.2, HPR.out.2.1.2.2, HPR.out.2.2.1.2.2, HPR.out.2.2.2.2.2, HB.out.2.2.2.1, colsL_len _ _ _, colsL_all _ _ _⟩ hple (Nat.le_refl _) (by omega) h0
      rw [hRV] at h
      exact h))
    clear hra2 hRV hC PX hP hyL hm hk
    rcases RV with z | Lr
    · obtain ⟨z1, z2⟩ := z
      obtain ⟨rfl, hz1⟩ := (show t = (z1, z2) ∧ z1 ≠ 0 from hmt)
      have hfc : fc f (z1, z2) = [.int .i64 z1, .int .i64 f, .int .i64 z2] := by unfold fc; simp only; rw [if_neg hz1]
      rw [hfc]
      clear hfc
      have HR22 := Hi (fun w0 (h0 : dp ≤ 8 → ∃ gt ct bt, Value.slice la ln lc = .slice (some ⟨gt, 0, none⟩) co ct ∧ w0.ownsRow bt 185 4 (.slice (some ⟨gt, 0, none⟩) co ct) co (colsL (s.extract en s.size) kd co)) => (HR22.out w0 h0).mono (R' := fun e w' => e = .returned (.agg (List.toArray [.int .i64 0, .int .i64 0, .slice none 0 0, .int .i64 z1, .int .i64 z2])) ∧ Below w0.heap.size w0 w') fun e w' h => h)
      clear hmt
      go_upto_region 21 with (first
        | (refine store_o rfl 39 3 _ _ rfl (d9 + 1) [.int .i64 z1, .int .i64 f, .int .i64 z2] rfl rfl (by kernel_rfl) (by kernel_rfl) (by kernel_rfl) O10.out (by first | rfl | simp) ?_; intro ws hst hO; have hcs := Stored.chgS (S := fun k => k = (d9 + 1)) hst (Chg.refl _ _) (Or.inl rfl); have O10 := Hi hO; have O4 := Hi (hcs.obj O4.out (show ¬ d4 = (d9 + 1) by omega)); have O12 := Hi (hcs.obj O12.out (show ¬ d12 = (d9 + 1) by omega)); have HRAS := Hi (HRAS.out.chg hcs (show ¬ RR = (d9 + 1) by omega) (show ¬ rB = (d9 + 1) by omega) (show ¬ rg = (d9 + 1) by omega)); have HY := Hi (HY.out.chg hcs (show ¬ X = (d9 + 1) by omega)); have BL := Hi (BL.out.trans (hcs.below BL.out.size (fun k hk => by rw [hk]; omega))); have HLV := Hi (show dp ≤ 8 → ∃ gt ct bt, Value.slice la ln lc = .slice (some ⟨gt, 0, none⟩) co ct ∧ d9 + 1 < gt ∧ gt < d12 ∧ ws.ownsRow bt 185 4 (.slice (some ⟨gt, 0, none⟩) co ct) co (colsL (s.extract en s.size) kd co) from fun h8 => by obtain ⟨gt, ct, bt, e1, e2, e3, e4⟩ := HLV.out h8; exact ⟨gt, ct, bt, e1, e2, e3, owns_chgw e4 hcs (show ¬ gt = d9 + 1 by omega)⟩); clear hst hO hcs))
      have q120 := (O12.out.cell 0).trans (show _ = some (.int .i64 pl) from rfl)
      have q121 := (O12.out.cell 1).trans (show _ = some (.slice la ln lc) from rfl)
      go_wp2_with (first
        | (refine load_u (by kernel_rfl) 52 15 _ rfl d4 [.int .i64 sz, .int .i64 W, .int .i64 Hh, .bool top, .int .i64 dp, .int .i64 mt, .int .i64 co, .int .i64 r, .int .i64 g, .int .i64 b, .int .i64 q, .int .i64 0, .int .i64 en, .int .i64 0, .int .i64 0] rfl rfl O4.out Tryz.underlying52 rfl (by kernel_rfl) ?_; intro _))
      with_reducible refine (HR22.out _ (fun h8 => by obtain ⟨gt, ct, bt, e1, -, -, e4⟩ := HLV.out h8; exact ⟨gt, ct, bt, e1, e4⟩)).mono ?_
      rintro e w9 ⟨rfl, hb⟩
      clear q120 q121
      have hC := chg_of_below hb (fun _ => False)
      clear hb
      have O4 := Hi (hC.obj O4.out (fun h => h))
      have O10 := Hi (hC.obj O10.out (fun h => h))
      have O12 := Hi (hC.obj O12.out (fun h => h))
      have HRAS := Hi (HRAS.out.chg hC (fun h => h) (fun h => h) (fun h => h))
      have HY := Hi (HY.out.chg hC (fun h => h))
      have BL := Hi (BL.out.trans (hC.below BL.out.size (fun _ h => h.elim)))
      clear hC
      obtain ⟨d15, hd15⟩ : ∃ d, w9.heap.size = d := ⟨_, rfl⟩
      have O15 := Hi (obj1_new w9 #[.int .i64 0, .int .i64 0, .slice none 0 0, .int .i64 0, .int .i64 0] 59)
      have j4 := O12.out.lt
      have j5 := HRAS.out.lt
      have j6 := HRAS.out.buf.lt
      have j7 := HRAS.out.buf.glt rfl
      have j8 := HY.out.lt
      have j9 := O10.out.lt
      rw [hd15] at O15 j4 j5 j6 j7 j8 j9
      have hal := (Chg.refl (fun _ => False) w9).alloc (.cells #[.int .i64 0, .int .i64 0, .slice none 0 0, .int .i64 0, .int .i64 0] 59)
      have O4 := Hi (hal.obj O4.out (fun h => h))
      have O10 := Hi (hal.obj O10.out (fun h => h))
      have O12 := Hi (hal.obj O12.out (fun h => h))
      have HRAS := Hi (HRAS.out.chg hal (fun h => h) (fun h => h) (fun h => h))
      have HY := Hi (HY.out.chg hal (fun h => h))
      have BL := Hi (BL.out.trans (hal.below BL.out.size (fun _ h => h.elim)))
      clear hal
      go_upto_region 22 with (first
        | (refine store_o rfl 59 5 _ _ rfl d15 [.int .i64 0, .int .i64 0, .slice none 0 0, .int .i64 z1, .int .i64 z2] rfl rfl (by kernel_rfl) (by kernel_rfl) (by kernel_rfl) O15.out (by first | rfl | simp) ?_; intro ws hst hO; have hcs := Stored.chgS (S := fun k => k = d15) hst (Chg.refl _ _) (Or.inl rfl); have O15 := Hi hO; have O4 := Hi (hcs.obj O4.out (show ¬ d4 = d15 by omega)); have O10 := Hi (hcs.obj O10.out (show ¬ (d9 + 1) = d15 by omega)); have O12 := Hi (hcs.obj O12.out (show ¬ d12 = d15 by omega)); have HRAS := Hi (HRAS.out.chg hcs (show ¬ RR = d15 by omega) (show ¬ rB = d15 by omega) (show ¬ rg = d15 by omega)); have HY := Hi (HY.out.chg hcs (show ¬ X = d15 by omega)); have BL := Hi (BL.out.trans (hcs.below BL.out.size (fun k hk => by rw [hk]; omega))); clear hst hO hcs))
      clear hd15
      have q153 := (O15.out.cell 3).trans (show _ = some (.int .i64 z1) from rfl)
      have q154 := (O15.out.cell 4).trans (show _ = some (.int .i64 z2) from rfl)
      have hb1 : (z1 != 0) = true := by rw [bne_iff_ne]; exact hz1
      go_upto_region 23 with (fail)
      go_wp2_with (first
        | (refine load_u (by kernel_rfl) 39 3 _ rfl (d9 + 1) [.int .i64 z1, .int .i64 f, .int .i64 z2] rfl rfl O10.out Tryz.underlying39 rfl (by kernel_rfl) ?_; intro _))
      with_reducible refine (awake21 _).mono ?_
      rintro e w10 ⟨rfl, hb⟩
      have BL := Hi (bthen hb BL.out BL.out.size)
      clear hb
      go_wp2_with fail
      go_ret
      exact ⟨rfl, BL.out⟩
    · obtain ⟨rfl, hdd, hyy⟩ := (show t = (0, 0) ∧ u8s dd = Lr ∧ y = ⟨L, s, 0, s.size, pl + Hh * strideN W dp⟩ from hmt)
      subst hdd
      subst hyy
      rw [show fc f (0, 0) = [.int .i64 0, .int .i64 0, .int .i64 0] from rfl]
      have HR22 := Hi (fun w0 (h0 : dp ≤ 8 → ∃ gt ct bt, Value.slice la ln lc = .slice (some ⟨gt, 0, none⟩) co ct ∧ w0.ownsRow bt 185 4 (.slice (some ⟨gt, 0, none⟩) co ct) co (colsL (s.extract en s.size) kd co)) => (HR22.out w0 h0).mono (R' := fun e w' => ∃ gi ci, e = .returned (.agg (List.toArray [.int .i64 W, .int .i64 Hh, .slice (some ⟨gi, 0, none⟩) (W * Hh : Nat) ci, .int .i64 0, .int .i64 0])) ∧ w'.ownsRow w0.heap.size 185 4 (.slice (some ⟨gi, 0, none⟩) (W * Hh : Nat) ci) (W * Hh) (u8s dd) ∧ Below w0.heap.size w0 w') fun e w' h => h)
      clear hmt
      have j20 := O12.out.lt
      go_upto_region 21 with (first
        | (refine store_o rfl 39 3 _ _ rfl (d9 + 1) [.int .i64 0, .int .i64 0, .int .i64 0] rfl rfl (by kernel_rfl) (by kernel_rfl) (by kernel_rfl) O10.out (by first | rfl | simp) ?_; intro ws hst hO; have hcs := Stored.chgS (S := fun k => k = (d9 + 1)) hst (Chg.refl _ _) (Or.inl rfl); have O10 := Hi hO; have O4 := Hi (hcs.obj O4.out (show ¬ d4 = (d9 + 1) by omega)); have O12 := Hi (hcs.obj O12.out (show ¬ d12 = (d9 + 1) by omega)); have HRAS := Hi (HRAS.out.chg hcs (show ¬ RR = (d9 + 1) by omega) (show ¬ rB = (d9 + 1) by omega) (show ¬ rg = (d9 + 1) by omega)); have HY := Hi (HY.out.chg hcs (show ¬ X = (d9 + 1) by omega)); have BL := Hi (BL.out.trans (hcs.below BL.out.size (fun k hk => by rw [hk]; omega))); have HLV := Hi (show dp ≤ 8 → ∃ gt ct bt, Value.slice la ln lc = .slice (some ⟨gt, 0, none⟩) co ct ∧ d9 + 1 < gt ∧ gt < d12 ∧ ws.ownsRow bt 185 4 (.slice (some ⟨gt, 0, none⟩) co ct) co (colsL (s.extract en s.size) kd co) from fun h8 => by obtain ⟨gt, ct, bt, e1, e2, e3, e4⟩ := HLV.out h8; exact ⟨gt, ct, bt, e1, e2, e3, owns_chgw e4 hcs (show ¬ gt = d9 + 1 by omega)⟩); clear hst hO hcs))
      have q120 := (O12.out.cell 0).trans (show _ = some (.int .i64 pl) from rfl)
      have q121 := (O12.out.cell 1).trans (show _ = some (.slice la ln lc) from rfl)
      go_wp2_with (first
        | (refine load_u (by kernel_rfl) 52 15 _ rfl d4 [.int .i64 sz, .int .i64 W, .int .i64 Hh, .bool top, .int .i64 dp, .int .i64 mt, .int .i64 co, .int .i64 r, .int .i64 g, .int .i64 b, .int .i64 q, .int .i64 0, .int .i64 en, .int .i64 0, .int .i64 0] rfl rfl O4.out Tryz.underlying52 rfl (by kernel_rfl) ?_; intro _))
      with_reducible refine (HR22.out _ (fun h8 => by obtain ⟨gt, ct, bt, e1, -, -, e4⟩ := HLV.out h8; exact ⟨gt, ct, bt, e1, e4⟩)).mono ?_
      rintro e w9 ⟨gi, ci, rfl, how, hb⟩
      have hgi := how
      obtain ⟨bi, how⟩ : ∃ b, w9.ownsRow b 185 4 (.slice (some ⟨gi, 0, none⟩) (W * Hh : Nat) ci) (W * Hh) (u8s dd) := ⟨_, how⟩
      have OW2 := Hi how
      have j11 := (owns_blk hgi rfl).1
      have j12 := O10.out.lt
      have j13 := O12.out.lt
      have j14 := HRAS.out.lt
      have j15 : rB < _ := HRAS.out.buf.lt
      clear how hgi
      clear q120 q121
      have hC := chg_of_below hb (fun _ => False)
      clear hb
      have O4 := Hi (hC.obj O4.out (fun h => h))
      have O10 := Hi (hC.obj O10.out (fun h => h))
      have O12 := Hi (hC.obj O12.out (fun h => h))
      have HRAS := Hi (HRAS.out.chg hC (fun h => h) (fun h => h) (fun h => h))
      have HY := Hi (HY.out.chg hC (fun h => h))
      have BL := Hi (BL.out.trans (hC.below BL.out.size (fun _ h => h.elim)))
      clear hC
      obtain ⟨d15, hd15⟩ : ∃ d, w9.heap.size = d := ⟨_, rfl⟩
      have O15 := Hi (obj1_new w9 #[.int .i64 0, .int .i64 0, .slice none 0 0, .int .i64 0, .int .i64 0] 59)
      have j4 := O12.out.lt
      have j5 := HRAS.out.lt
      have j6 := HRAS.out.buf.lt
      have j7 := HRAS.out.buf.glt rfl
      have j8 := HY.out.lt
      have j9 := O10.out.lt
      have j10 := (owns_lt OW2.out).2
      rw [hd15] at O15 j4 j5 j6 j7 j8 j9 j10
      have hal := (Chg.refl (fun _ => False) w9).alloc (.cells #[.int .i64 0, .int .i64 0, .slice none 0 0, .int .i64 0, .int .i64 0] 59)
      have OW2 := Hi (owns_chgw OW2.out hal (fun h => h))
      have O4 := Hi (hal.obj O4.out (fun h => h))
      have O10 := Hi (hal.obj O10.out (fun h => h))
      have O12 := Hi (hal.obj O12.out (fun h => h))
      have HRAS := Hi (HRAS.out.chg hal (fun h => h) (fun h => h) (fun h => h))
      have HY := Hi (HY.out.chg hal (fun h => h))
      have BL := Hi (BL.out.trans (hal.below BL.out.size (fun _ h => h.elim)))
      clear hal
      go_upto_region 22 with (first
        | (refine store_o rfl 59 5 _ _ rfl d15 [.int .i64 W, .int .i64 Hh, .slice (some ⟨gi, 0, none⟩) (W * Hh : Nat) ci, .int .i64 0, .int .i64 0] rfl rfl (by kernel_rfl) (by kernel_rfl) (by kernel_rfl) O15.out (by first | rfl | simp) ?_; intro ws hst hO; have hcs := Stored.chgS (S := fun k => k = d15) hst (Chg.refl _ _) (Or.inl rfl); have O15 := Hi hO; have OW2 := Hi (owns_chgw OW2.out hcs (show ¬ gi = d15 by omega)); have O4 := Hi (hcs.obj O4.out (show ¬ d4 = d15 by omega)); have O10 := Hi (hcs.obj O10.out (show ¬ (d9 + 1) = d15 by omega)); have O12 := Hi (hcs.obj O12.out (show ¬ d12 = d15 by omega)); have HRAS := Hi (HRAS.out.chg hcs (show ¬ RR = d15 by omega) (show ¬ rB = d15 by omega) (show ¬ rg = d15 by omega)); have HY := Hi (HY.out.chg hcs (show ¬ X = d15 by omega)); have BL := Hi (BL.out.trans (hcs.below BL.out.size (fun k hk => by rw [hk]; omega))); clear hst hO hcs))
      clear hd15
      have q153 := (O15.out.cell 3).trans (show _ = some (.int .i64 0) from rfl)
      go_upto_region 24 with (fail)
      have HDL := Hi (show dd.length = 4 * (W * Hh) from HRAS.out.len)
      have HDB := Hi (show ∀ x ∈ dd, 0 ≤ x ∧ x < 256 from HRAS.out.buf.byt)
      have hRRw : w.heap.size ≤ RR := by omega
      have hrBw : w.heap.size ≤ rB := by omega
      have HIM := Hi (fun w0 (h0 : RasAt w0 RR ⟨L, W, Hh, rB, true, ⟨L, rg, dd, true⟩⟩) => (show Calls Tryz.prog 26 #[.pointer (some ⟨RR, 0, none⟩)] w0 (fun e w' => e = .returned (.tuple #[.agg (List.toArray [.int .i64 W, .int .i64 Hh, .slice (some ⟨rg, 0, none⟩) dd.length dd.length]), .bool true]) ∧ Obj1 w' rg (u8s dd).toArray 5 ∧ Chg (fun k => k = RR ∨ k = rB) w0 w') from
        (rimage_yes RR ⟨L, W, Hh, rB, true, ⟨L, rg, dd, true⟩⟩ w0 h0 rfl).mono fun e w' h => ⟨h.1, h.2.2.1, h.2.2.2⟩))
      have u0 := O15.out.lt
      go_wp2_with fail
      with_reducible refine (HIM.out _ HRAS.out).mono ?_
      rintro e w10 ⟨rfl, hog, hC⟩
      clear q153
      have OW2 := Hi (owns_chgw OW2.out hC (show ¬ (gi = RR ∨ gi = rB) from by omega))
      have O4 := Hi (hC.obj O4.out (show ¬ (d4 = RR ∨ d4 = rB) from by omega))
      have O10 := Hi (hC.obj O10.out (show ¬ ((d9 + 1) = RR ∨ (d9 + 1) = rB) from by omega))
      have O12 := Hi (hC.obj O12.out (show ¬ (d12 = RR ∨ d12 = rB) from by omega))
      have HY := Hi (HY.out.chg hC (show ¬ (X = RR ∨ X = rB) from by omega))
      have O15 := Hi (hC.obj O15.out (show ¬ (d15 = RR ∨ d15 = rB) from by omega))
      have BL := Hi (BL.out.trans (hC.below BL.out.size (fun k hk => by rcases hk with hk | hk <;> (rw [hk]; assumption))))
      have ORG := Hi hog
      clear hog hC HRAS HLV HPT
      obtain ⟨d16, hd16⟩ : ∃ d, w10.heap.size = d := ⟨_, rfl⟩
      have O16 := Hi (obj1_new w10 #[.int .i64 0, .int .i64 0, .slice none 0 0] 63)
      have u1 := O15.out.lt
      have u2 := ORG.out.lt
      have u3 := (owns_lt OW2.out).2
      have u4 := O10.out.lt
      rw [hd16] at O16 u1 u2 u3 u4
      have hal := (Chg.refl (fun _ => False) w10).alloc (.cells #[.int .i64 0, .int .i64 0, .slice none 0 0] 63)
      have OW2 := Hi (owns_chgw OW2.out hal (fun h => h))
      have O4 := Hi (hal.obj O4.out (fun h => h))
      have O10 := Hi (hal.obj O10.out (fun h => h))
      have O12 := Hi (hal.obj O12.out (fun h => h))
      have HY := Hi (HY.out.chg hal (fun h => h))
      have O15 := Hi (hal.obj O15.out (fun h => h))
      have ORG := Hi (hal.obj ORG.out (fun h => h))
      have BL := Hi (BL.out.trans (hal.below BL.out.size (fun _ h => h.elim)))
      clear hal
      go_upto_region 25 with (first
        | (refine store_o rfl 63 3 _ _ rfl d16 [.int .i64 W, .int .i64 Hh, .slice (some ⟨rg, 0, none⟩) dd.length dd.length] rfl rfl (by kernel_rfl) (by kernel_rfl) (by kernel_rfl) O16.out (by first | rfl | simp) ?_; intro ws hst hO; have hcs := Stored.chgS (S := fun k => k = d16) hst (Chg.refl _ _) (Or.inl rfl); have O16 := Hi hO; have OW2 := Hi (owns_chgw OW2.out hcs (show ¬ gi = d16 by omega)); have O4 := Hi (hcs.obj O4.out (show ¬ d4 = d16 by omega)); have O10 := Hi (hcs.obj O10.out (show ¬ (d9 + 1) = d16 by omega)); have O12 := Hi (hcs.obj O12.out (show ¬ d12 = d16 by omega)); have HY := Hi (HY.out.chg hcs (show ¬ X = d16 by omega)); have O15 := Hi (hcs.obj O15.out (show ¬ d15 = d16 by omega)); have ORG := Hi (hcs.obj ORG.out (show ¬ rg = d16 by omega)); have BL := Hi (BL.out.trans (hcs.below BL.out.size (fun k hk => by rw [hk]; omega))); clear hst hO hcs))
      clear hd16
      have HRO := Hi (owns_range OW2.out)
      have HGL := Hi (owns_lt OW2.out).2
      obtain ⟨st, hst9⟩ : ∃ n, strideN W dp = n := ⟨_, rfl⟩
      have hdb : dp ≤ 32 := by have := HDK.out; unfold dpOk at this; omega
      have hstb : st ≤ 300 := by
        have := Nat.mul_le_mul hW2 hdb
        rw [← hst9]; unfold strideN; omega
      have HST := Hi (fun w0 => (show Calls Tryz.prog 34 #[.agg (List.toArray [.int .i64 sz, .int .i64 W, .int .i64 Hh, .bool top, .int .i64 dp, .int .i64 mt, .int .i64 co, .int .i64 r, .int .i64 g, .int .i64 b, .int .i64 q, .int .i64 0, .int .i64 en, .int .i64 0, .int .i64 0])] w0 (fun e w' => e = .returned (.int .i64 (st : Int)) ∧ Below w0.heap.size w0 w') from by
        have := rstride_any sz W Hh top dp mt co r g b q 0 en w0 (by omega) hdb; rw [hst9] at this; exact this))
      obtain ⟨hs9, hhs9⟩ : ∃ n, Hh * st = n := ⟨_, rfl⟩
      have hhs9b : hs9 ≤ 18000 := by rw [← hhs9]; exact Nat.mul_le_mul hH2 hstb
      have ehs : (Hh : Int) * (st : Int) = (hs9 : Int) := by rw [← hhs9]; exact (Int.natCast_mul Hh st).symm
      have HY := Hi (show SrcAt _ X ⟨L, s, 0, s.size, pl + hs9⟩ by have := HY.out; rw [hst9, hhs9] at this; exact this)
      have HAT := Hi (fun w0 (h0 : SrcAt w0 X ⟨L, s, 0, s.size, pl + hs9⟩) => (show Calls Tryz.prog 32 #[.pointer (some ⟨X, 0, none⟩)] w0 (fun e w' => e = .returned (.int .i64 ((pl + hs9 : Nat) : Int)) ∧ w0 = w') from at_any X ⟨L, s, 0, s.size, pl + hs9⟩ w0 h0))
      clear hst9 hhs9
      have HPLN := Hi (fun w0 (h0 : w0.rangeAt gi 0 (u8s dd)) (h1 : gi < w0.heap.size) => plain13_any W Hh gi (W * Hh) ci dd w0 h0 HDL.out (by have := HWH.out; omega) h1 HDB.out)
      have HSM := Hi (fun w0 gp cp (h0 : w0.rangeAt rg 0 (u8s dd)) (h1 : w0.rangeAt gp 0 (u8s dd)) (h2 : rg < w0.heap.size) (h3 : gp < w0.heap.size) => same07_any W Hh rg dd.length gp cp dd.length dd w0 h0 h1 rfl h2 h3)
      refine wp_region_noPanic ?_
      refine wp_region_held_drew (S := fun w' => Chg (fun _ => False) ws w') (by kernel_rfl) (Chg.refl _ _).drew (fun hHeld => ?_)
      refine wpAnyH_take (i := 0) (v := .bool true) rfl (by kernel_rfl) (by kernel_rfl) (by kernel_rfl) (fun _ _ _ h => h) (Or.inl ⟨by rfl, fun w hS => by (go_simp) <;> first | rfl | assumption | (intro hh; exfalso; omega) | (exact (i64_wraps _ (by omega) (by omega)).trans (by omega)) | omega⟩) hHeld ?_
      simp only [Act.put, zq1, zq2, zq3, zq4, zq5, zq6]
      refine wpAnyH_take (i := 1) (v := .bool true) rfl (by kernel_rfl) (by kernel_rfl) (by kernel_rfl) (fun _ _ _ h => h) (Or.inl ⟨by rfl, fun w hS => by (go_simp) <;> first | rfl | assumption | (intro hh; exfalso; omega) | (exact (i64_wraps _ (by omega) (by omega)).trans (by omega)) | omega⟩) hHeld ?_
      simp only [Act.put, zq1, zq2, zq3, zq4, zq5, zq6]
      refine wpAnyH_take (i := 2) (v := .agg (List.toArray ([.int .i64 0, .int .i64 0, .int .i64 0]))) rfl (by kernel_rfl) (by kernel_rfl) (by kernel_rfl) (fun _ _ _ h => h) (yieldsIf_load_mid (by rfl) 39 _ rfl (d9 + 1) (0) rfl ([.int .i64 0, .int .i64 0, .int .i64 0]) _ (fun w hS => range_chgU O10.out.range0 hS O10.out.lt (fun h => h)) Tryz.underlying39 rfl (by kernel_rfl)) hHeld ?_
      simp only [Act.put, zq1, zq2, zq3, zq4, zq5, zq6]
      refine wpAnyH_take (i := 3) (v := .agg #[.int .i64 0, .int .i64 0, .int .i64 0]) rfl (by kernel_rfl) (by kernel_rfl) (by kernel_rfl) (fun _ _ _ h => h) (Or.inl ⟨by rfl, fun w hS => by go_simp⟩) hHeld ?_
      simp only [Act.put, zq1, zq2, zq3, zq4, zq5, zq6]
      refine wpAnyH_take (i := 4) (v := .bool true) rfl (by kernel_rfl) (by kernel_rfl) (by kernel_rfl) (fun _ _ _ h => h) (Or.inl ⟨by rfl, fun w hS => by go_simp⟩) hHeld ?_
      simp only [Act.put, zq1, zq2, zq3, zq4, zq5, zq6]
      refine wpAnyH_take (i := 5) (v := .bool true) rfl (by kernel_rfl) (by kernel_rfl) (by kernel_rfl) (fun _ _ _ h => h) (Or.inl ⟨by rfl, fun w hS => by go_simp⟩) hHeld ?_
      simp only [Act.put, zq1, zq2, zq3, zq4, zq5, zq6]
      refine wpAnyH_take (i := 6) (v := .bool true) rfl (by kernel_rfl) (by kernel_rfl) (by kernel_rfl) (fun _ _ _ h => h) (Or.inl ⟨by rfl, fun w hS => by go_simp⟩) hHeld ?_
      simp only [Act.put, zq1, zq2, zq3, zq4, zq5, zq6]
      refine wpAnyH_take (i := 7) (v := .agg (List.toArray ([.int .i64 W, .int .i64 Hh, .slice (some ⟨rg, 0, none⟩) dd.length dd.length]))) rfl (by kernel_rfl) (by kernel_rfl) (by kernel_rfl) (fun _ _ _ h => h) (yieldsIf_load_mid (by rfl) 63 _ rfl (d16) (0) rfl ([.int .i64 W, .int .i64 Hh, .slice (some ⟨rg, 0, none⟩) dd.length dd.length]) _ (fun w hS => range_chgU O16.out.range0 hS O16.out.lt (fun h => h)) Tryz.underlying63 rfl (by kernel_rfl)) hHeld ?_
      simp only [Act.put, zq1, zq2, zq3, zq4, zq5, zq6]
      refine wpAnyH_take (i := 8) (v := .agg (List.toArray ([.int .i64 W, .int .i64 Hh, .slice (some ⟨gi, 0, none⟩) (W * Hh : Nat) ci, .int .i64 0, .int .i64 0]))) rfl (by kernel_rfl) (by kernel_rfl) (by kernel_rfl) (fun _ _ _ h => h) (yieldsIf_load_mid (by rfl) 59 _ rfl (d15) (0) rfl ([.int .i64 W, .int .i64 Hh, .slice (some ⟨gi, 0, none⟩) (W * Hh : Nat) ci, .int .i64 0, .int .i64 0]) _ (fun w hS => range_chgU O15.out.range0 hS O15.out.lt (fun h => h)) Tryz.underlying59 rfl (by kernel_rfl)) hHeld ?_
      simp only [Act.put, zq1, zq2, zq3, zq4, zq5, zq6]
      have hS := (Chg.refl (fun _ => False) ws).drew
      generalize World.drew _ = wk at hS ⊢
      refine wpAnyH_ready (rs := [9]) (by kernel_rfl) (by simp) ?_
      refine AllReadyH.cons (o := _) rfl (fun K' hK => ?_) AllReadyH.nil
      go_simp
      with_reducible refine (HPLN.out _ (range_chgU HRO.out hS HGL.out (fun h => h)) (Nat.lt_of_lt_of_le HGL.out hS.size)).mono ?_
      rintro e5 w5 ⟨gp, cp, rfl, hR5, hg5, hb5⟩
      go_wp2_with fail
      have hS2 := hS.trans (chg_of_below hb5 _)
      refine hK _ _ hS2 (fun hH2 => ?_)
      clear hK K'
      try simp only [Act.put, zq1, zq2, zq3, zq4, zq5, zq6]
      refine wpAnyH_ready (rs := [10]) (by kernel_rfl) (by simp) ?_
      refine AllReadyH.cons (o := _) rfl (fun K' hK => ?_) AllReadyH.nil
      go_simp
      with_reducible refine (HSM.out _ gp cp (range_chgU ORG.out.range0 hS2 ORG.out.lt (fun h => h)) hR5 (Nat.lt_of_lt_of_le ORG.out.lt hS2.size) hg5).mono ?_
      rintro e6 w6 ⟨rfl, hb6⟩
      go_wp2_with fail
      have hS3 := hS2.trans (chg_of_below hb6 _)
      refine hK _ _ hS3 (fun hH3 => ?_)
      clear hK K'
      try simp only [Act.put, zq1, zq2, zq3, zq4, zq5, zq6]
      refine wpAnyH_take (i := 11) (v := .bool true) rfl (by kernel_rfl) (by kernel_rfl) (by kernel_rfl) (fun _ _ _ h => h) (Or.inl ⟨by rfl, fun w hS => by go_simp⟩) hH3 ?_
      simp only [Act.put, zq1, zq2, zq3, zq4, zq5, zq6]
      refine wpAnyH_take (i := 12) (v := .bool true) rfl (by kernel_rfl) (by kernel_rfl) (by kernel_rfl) (fun _ _ _ h => h) (Or.inl ⟨by rfl, fun w hS => by go_simp⟩) hH3 ?_
      simp only [Act.put, zq1, zq2, zq3, zq4, zq5, zq6]
      refine wpAnyH_take (i := 13) (v := .pointer (some ⟨X, 0, none⟩)) rfl (by kernel_rfl) (by kernel_rfl) (by kernel_rfl) (fun _ _ _ h => h) (Or.inl ⟨by rfl, fun w hS => by (go_simp) <;> first | rfl | assumption | (intro hh; exfalso; omega) | (exact (i64_wraps _ (by omega) (by omega)).trans (by omega)) | omega⟩) hH3 ?_
      simp only [Act.put, zq1, zq2, zq3, zq4, zq5, zq6]
      refine wpAnyH_take (i := 15) (v := .pointer (some ⟨d12, 0, none⟩)) rfl (by kernel_rfl) (by kernel_rfl) (by kernel_rfl) (fun _ _ _ h => h) (Or.inl ⟨by rfl, fun w hS => by (go_simp) <;> first | rfl | assumption | (intro hh; exfalso; omega) | (exact (i64_wraps _ (by omega) (by omega)).trans (by omega)) | omega⟩) hH3 ?_
      simp only [Act.put, zq1, zq2, zq3, zq4, zq5, zq6]
      refine wpAnyH_take (i := 16) (v := .int .i64 (pl : Int)) rfl (by kernel_rfl) (by kernel_rfl) (by kernel_rfl) (fun _ _ _ h => h) (Or.inl ⟨by rfl, fun w hS => by (have hc : w.cell? ⟨d12, 0, none⟩ = some (.int .i64 (pl : Int)) := (hS.cell (b := d12) (o := 0) O12.out.lt (fun h => h)).trans ((O12.out.cell 0).trans rfl); go_simp)⟩) hH3 ?_
      simp only [Act.put, zq1, zq2, zq3, zq4, zq5, zq6]
      refine wpAnyH_take (i := 17) (v := .pointer (some ⟨d4, 2, none⟩)) rfl (by kernel_rfl) (by kernel_rfl) (by kernel_rfl) (fun _ _ _ h => h) (Or.inl ⟨by rfl, fun w hS => by (go_simp) <;> first | rfl | assumption | (intro hh; exfalso; omega) | (exact (i64_wraps _ (by omega) (by omega)).trans (by omega)) | omega⟩) hH3 ?_
      simp only [Act.put, zq1, zq2, zq3, zq4, zq5, zq6]
      refine wpAnyH_take (i := 18) (v := .int .i64 (Hh : Int)) rfl (by kernel_rfl) (by kernel_rfl) (by kernel_rfl) (fun _ _ _ h => h) (Or.inl ⟨by rfl, fun w hS => by (have hc : w.cell? ⟨d4, 2, none⟩ = some (.int .i64 (Hh : Int)) := (hS.cell (b := d4) (o := 2) O4.out.lt (fun h => h)).trans ((O4.out.cell 2).trans rfl); go_simp)⟩) hH3 ?_
      simp only [Act.put, zq1, zq2, zq3, zq4, zq5, zq6]
      refine wpAnyH_take (i := 19) (v := .agg (List.toArray ([.int .i64 sz, .int .i64 W, .int .i64 Hh, .bool top, .int .i64 dp, .int .i64 mt, .int .i64 co, .int .i64 r, .int .i64 g, .int .i64 b, .int .i64 q, .int .i64 0, .int .i64 en, .int .i64 0, .int .i64 0]))) rfl (by kernel_rfl) (by kernel_rfl) (by kernel_rfl) (fun _ _ _ h => h) (yieldsIf_load_mid (by rfl) 52 _ rfl (d4) (0) rfl ([.int .i64 sz, .int .i64 W, .int .i64 Hh, .bool top, .int .i64 dp, .int .i64 mt, .int .i64 co, .int .i64 r, .int .i64 g, .int .i64 b, .int .i64 q, .int .i64 0, .int .i64 en, .int .i64 0, .int .i64 0]) _ (fun w hS => range_chgU O4.out.range0 hS O4.out.lt (fun h => h)) Tryz.underlying52 rfl (by kernel_rfl)) hH3 ?_
      simp only [Act.put, zq1, zq2, zq3, zq4, zq5, zq6]
      refine wpAnyH_ready (rs := [14]) (by kernel_rfl) (by simp) ?_
      refine AllReadyH.cons (o := _) rfl (fun K' hK => ?_) AllReadyH.nil
      go_simp
      with_reducible refine (HAT.out _ (HY.out.chg hS3 (fun h => h))).mono ?_
      rintro e7 w7 ⟨rfl, rfl⟩
      go_wp2_with fail
      have hS4 := hS3
      refine hK _ _ hS4 (fun hH4 => ?_)
      clear hK K'
      try simp only [Act.put, zq1, zq2, zq3, zq4, zq5, zq6]
      refine wpAnyH_ready (rs := [20]) (by kernel_rfl) (by simp) ?_
      refine AllReadyH.cons (o := _) rfl (fun K' hK => ?_) AllReadyH.nil
      go_simp
      with_reducible refine (HST.out _).mono ?_
      rintro e8 w8 ⟨rfl, hb8⟩
      go_wp2_with fail
      have hS5 := hS4.trans (chg_of_below hb8 _)
      refine hK _ _ hS5 (fun hH5 => ?_)
      clear hK K'
      try simp only [Act.put, zq1, zq2, zq3, zq4, zq5, zq6]
      refine wpAnyH_take (i := 21) (v := .int .i64 (hs9 : Int)) rfl (by kernel_rfl) (by kernel_rfl) (by kernel_rfl) (fun _ _ _ h => h) (Or.inl ⟨by rfl, fun w hS => by (go_simp; exact i64_wraps _ (by omega) (by omega))⟩) hH5 ?_
      simp only [Act.put, zq1, zq2, zq3, zq4, zq5, zq6]
      refine wpAnyH_take (i := 22) (v := .int .i64 ((pl : Int) + (hs9 : Int))) rfl (by kernel_rfl) (by kernel_rfl) (by kernel_rfl) (fun _ _ _ h => h) (Or.inl ⟨by rfl, fun w hS => by (go_simp; (try rw [IntKind.wrap_i64]); omega)⟩) hH5 ?_
      simp only [Act.put, zq1, zq2, zq3, zq4, zq5, zq6]
      refine wpAnyH_take (i := 23) (v := .bool true) rfl (by kernel_rfl) (by kernel_rfl) (by kernel_rfl) (fun _ _ _ h => h) (Or.inl ⟨by rfl, fun w hS => by go_simp⟩) hH5 ?_
      simp only [Act.put, zq1, zq2, zq3, zq4, zq5, zq6]
      refine wpAnyH_take (i := 24) (v := .bool true) rfl (by kernel_rfl) (by kernel_rfl) (by kernel_rfl) (fun _ _ _ h => h) (Or.inl ⟨by rfl, fun w hS => by go_simp⟩) hH5 ?_
      simp only [Act.put, zq1, zq2, zq3, zq4, zq5, zq6]
      refine wpAnyH_take (i := 25) (v := .bool true) rfl (by kernel_rfl) (by kernel_rfl) (by kernel_rfl) (fun _ _ _ h => h) (Or.inl ⟨by rfl, fun w hS => by go_simp⟩) hH5 ?_
      simp only [Act.put, zq1, zq2, zq3, zq4, zq5, zq6]
      refine wpAnyH_ready (rs := [26]) (by kernel_rfl) (by simp) ?_
      refine AllReadyH.cons (o := _) rfl (fun K' hK => ?_) AllReadyH.nil
      go_simp
      with_reducible refine (awake21 _).mono ?_
      rintro e9 w9 ⟨rfl, hb9⟩
      go_wp2_with fail
      have hS6 := hS5.trans (chg_of_below hb9 _)
      refine hK _ _ hS6 (fun hH6 => ?_)
      clear hK K'
      try simp only [Act.put, zq1, zq2, zq3, zq4, zq5, zq6]
      refine wpAnyH_take (i := 27) (v := .bool true) rfl (by kernel_rfl) (by kernel_rfl) (by kernel_rfl) (fun _ _ _ h => h) (Or.inl ⟨by rfl, fun w hS => by go_simp⟩) hH6 ?_
      simp only [Act.put, zq1, zq2, zq3, zq4, zq5, zq6]
      refine wpAnyH_take (i := 28) (v := .bool true) rfl (by kernel_rfl) (by kernel_rfl) (by kernel_rfl) (fun _ _ _ h => h) (Or.inl ⟨by rfl, fun w hS => by go_simp⟩) hH6 ?_
      simp only [Act.put, zq1, zq2, zq3, zq4, zq5, zq6]
      refine wpAnyH_done (by kernel_rfl) ?_ _
      refine NoPanic.normal ?_
      go_wp2_with fail
      go_ret
      exact ⟨rfl, BL.out.trans (hS6.below BL.out.size (fun _ h => h.elim))⟩
theorem reads21_law (s : ByteArray) (f : Int) (hs : s.size ≤ maxLen) (hf : (Lit.int .i64 f).wf = true) (w : World) : Calls Tryz.prog 6 #[.string s, .int .i64 f] w (Yes w) := by
  have hs1 : s.size ≤ 9223372036854775807 := by unfold maxLen at hs; omega
  by_cases h : s.size ≤ 900
  · rcases head_cases s 0 (Nat.zero_le _) (by omega) f with ⟨k, a, hk, hr⟩ | ⟨H, r, g, b, q, en, HG⟩
    · exact reads21_exit s f w h 0 0 0 false 0 0 0 0 0 0 0 0 0 k a (by rw [hr]; rfl) (Or.inl hk)
    · have hr := HG.ok
      unfold rOk at hr
      by_cases h1 : H.mt = 1
      · exact reads21_exit s f w h _ _ _ _ _ _ _ _ _ _ _ _ _ 0 0 hr (Or.inr (Or.inl ⟨rfl, h1⟩))
      by_cases h2 : H.mt = 2
      · exact reads21_exit s f w h _ _ _ _ _ _ _ _ _ _ _ _ _ 0 0 hr (Or.inr (Or.inr (Or.inl ⟨rfl, h2⟩)))
      by_cases h3 : 60 < H.w
      · exact reads21_exit s f w h _ _ _ _ _ _ _ _ _ _ _ _ _ 0 0 hr (Or.inr (Or.inr (Or.inr (Or.inl ⟨rfl, h1, h2, h3⟩))))
      by_cases h4 : 60 < H.h
      · exact reads21_exit s f w h _ _ _ _ _ _ _ _ _ _ _ _ _ 0 0 hr (Or.inr (Or.inr (Or.inr (Or.inr ⟨rfl, h1, h2, by omega, h4⟩))))
      obtain ⟨sz, W, Hh, dp, co, top, mt, m, hmt, RH⟩ := row_head s f H r g b q en HG (by omega) (by omega)
      exact reads21_good s f w h sz W Hh top dp mt co r g b q en m RH (by rw [hmt]; exact h1) (by rw [hmt]; exact h2)
  · exact reads21_long s f w (by omega) hs1
end Go.Proofs.YtlfbaggcfaenlaaGreat

/- The law DibrleReads, walked: where a picture is read. -/
import Derived.Test.YtlfbaggcfaenlaaGreatK45
import Derived.Test.YtlfbaggcfaenlaaGreatK50
import Derived.Test.YtlfbaggcfaenlaaGreatK0
namespace Go.Proofs.YtlfbaggcfaenlaaGreat
open Go.RowKit
set_option linter.unusedVariables false
set_option linter.unusedSimpArgs false
def RleSays (R : E22 (List Value)) (t : Int × Int) (dd : List Int) : Prop := match R with
  | .error z => t = z ∧ z.1 ≠ 0
  | .ok L => t = (0, 0) ∧ u8s dd = L
set_option maxRecDepth 100000 in
set_option maxHeartbeats 16000000 in
theorem reads22_good (s : ByteArray) (f : Int) (w : World) (hs : s.size ≤ 1500) (sz : Int) (W Hh co dn : Nat) (mt r g b q : Int) (en : Nat) (HH : RunHead s f sz W Hh dn mt co r g b q en) (hv : (dn = 8 ∧ mt = 1) ∨ (dn = 4 ∧ mt = 2)) : Calls Tryz.prog 4 #[.string s, .int .i64 f] w (Yes22 w) := by
  obtain ⟨hr, hW1, hW2, hH1, hH2, hco1, hco2, hen, hrd⟩ := HH
  have HR := Hi (fun w0 => (show Calls Tryz.prog 23 #[.string s, .int .i64 0, .int .i64 s.size] w0 (RA w0 (rRead20 s 0)) from rread20_any s 0 w0 (Nat.zero_le _) (by decide) (by omega)))
  rw [show rRead20 s 0 = [.int .i64 sz, .int .i64 W, .int .i64 Hh, .bool false, .int .i64 dn, .int .i64 mt, .int .i64 co, .int .i64 r, .int .i64 g, .int .i64 b, .int .i64 q, .int .i64 0, .int .i64 en, .int .i64 0, .int .i64 0] from hr] at HR
  have HDN := Hi (show dn ≤ 8 ∧ ((dn : Int) = 4 ∨ (dn : Int) = 8) ∧ ((dn : Int) = 8 ∨ (dn : Int) = 4) by omega)
  have HRD := Hi hrd
  obtain ⟨kd, hkd⟩ : ∃ k : Nat, k = if sz = 12 then 3 else 4 := ⟨_, rfl⟩
  have hk34 : kd = 3 ∨ kd = 4 := by rw [hkd]; split <;> simp
  obtain ⟨nb, hnb⟩ : ∃ n, n = kd * co := ⟨_, rfl⟩
  have hnb4 : nb ≤ 1024 := by rw [hnb]; rcases hk34 with h | h <;> rw [h] <;> omega
  have HNB := Hi hnb
  have HKD := Hi hkd
  have HK34 := Hi hk34
  have HB := Hi (And.intro hW1 (And.intro hH1 (And.intro hco1 (And.intro hco2 hen))))
  have HT21 := Hi (fun w0 => (show Calls Tryz.prog 24 #[.string s, .agg (List.toArray [.int .i64 sz, .int .i64 W, .int .i64 Hh, .bool false, .int .i64 dn, .int .i64 mt, .int .i64 co, .int .i64 r, .int .i64 g, .int .i64 b, .int .i64 q, .int .i64 0, .int .i64 en, .int .i64 0, .int .i64 0]), .int .i64 s.size] w0 (Table21Post w0 s kd co dn en nb) from table21_any s sz W Hh false dn mt co r g b q 0 en kd nb w0 hkd hnb hco2 hen (by omega)))
  have HLN := Hi (fun w0 => lnew_any 40 40 20000 1000000 w0 (by decide) (by decide))
  clear hr hrd hkd hnb hk34 hW1 hH1 hco1 hco2 hen
  go_enter Tryz.func4, Tryz.ntmps4
  go_wp2_with fail
  with_reducible refine (HR.out _).mono ?_
  rintro e w1 ⟨rfl, hb⟩
  have BL := Hi hb
  have z0 := hb.size
  clear hb
  obtain ⟨d4, hd4⟩ : ∃ d, w1.heap.size = d := ⟨_, rfl⟩
  have O4 := Hi (obj1_new w1 #[.int .i64 0, .int .i64 0, .int .i64 0, .bool false, .int .i64 0, .int .i64 0, .int .i64 0, .int .i64 0, .int .i64 0, .int .i64 0, .int .i64 0, .int .i64 0, .int .i64 0, .int .i64 0, .int .i64 0] 52)
  have BL := Hi (BL.out.alloc BL.out.size (.cells #[.int .i64 0, .int .i64 0, .int .i64 0, .bool false, .int .i64 0, .int .i64 0, .int .i64 0, .int .i64 0, .int .i64 0, .int .i64 0, .int .i64 0, .int .i64 0, .int .i64 0, .int .i64 0, .int .i64 0] 52))
  rw [hd4] at O4 z0
  go_upto_region 2 with (first
    | (refine store_o rfl 52 15 _ _ rfl d4 ([.int .i64 sz, .int .i64 W, .int .i64 Hh, .bool false, .int .i64 dn, .int .i64 mt, .int .i64 co, .int .i64 r, .int .i64 g, .int .i64 b, .int .i64 q, .int .i64 0, .int .i64 en, .int .i64 0, .int .i64 0]) rfl rfl (by kernel_rfl) (by kernel_rfl) (by kernel_rfl) O4.out (by first | rfl | simp) ?_; intro ws hst hO; have hcs := Stored.chgS (S := fun k => k = d4) hst (Chg.refl _ _) (Or.inl rfl); have O4 := Hi hO; have BL := Hi (BL.out.trans (hcs.below BL.out.size (fun k hk => by rw [hk]; omega))); clear hst hO hcs))
  clear hd4
  have q13 := (O4.out.cell 13).trans (show _ = some (.int .i64 0) from rfl)
  have q5 := (O4.out.cell 5).trans (show _ = some (.int .i64 mt) from rfl)
  have q1 := (O4.out.cell 1).trans (show _ = some (.int .i64 W) from rfl)
  have q2 := (O4.out.cell 2).trans (show _ = some (.int .i64 Hh) from rfl)
  rcases hv with hv | hv
  all_goals
    have hm := hv.2
    clear hv
    go_upto_region 4 with (first
      | ((with_reducible refine skip_g rfl ?_ ?_); rfl; intro _))
    clear q13 q5 q1 q2 hm
    go_wp2_with fail
    have ltA := O4.out.lt
    refine (HLN.out _).mono ?_
    rintro e w2 ⟨L, rfl, hL, hLs, hC⟩
    have O4 := Hi (hC.obj O4.out (fun h => h))
    have BL := Hi (BL.out.trans (hC.below BL.out.size (fun _ h => h.elim)))
    have HL := Hi hL
    have lL : d4 < L := by omega
    have lLw : w.heap.size ≤ L := by omega
    clear hLs hC hL ltA
    go_wp2_with fail
    have ltA := HL.out.lt
    refine (snew_any L s _ (by omega) HL.out.lt).mono ?_
    rintro e w3 ⟨X, rfl, hX, hXs, hC⟩
    have O4 := Hi (hC.obj O4.out (fun h => h))
    have HL := Hi (HL.out.chg hC (fun h => h))
    have BL := Hi (BL.out.trans (hC.below BL.out.size (fun _ h => h.elim)))
    have lX : L < X := by omega
    have lXw : w.heap.size ≤ X := by omega
    have PX := Hi (show Pair w3 X ⟨L, s, 0, s.size, 0⟩ (Led.new 40 40 20000 1000000) from ⟨hX, HL.out⟩)
    clear hXs hC hX ltA HL
    obtain ⟨l1, hl1, hrd⟩ := HRD.out L X
    have HRD := Hi hrd
    have HL1 := Hi hl1
    clear hrd hl1
    go_upto_region 8 with (fail)
    go_wp2_with fail
    with_reducible refine (HRD.out _ PX.out).mono ?_
    rintro e w4 ⟨rfl, hP, hC⟩
    have hC : Chg (fun k => k = X ∨ k = L) _ _ := hC
    have O4 := Hi (hC.obj O4.out (show ¬ (d4 = X ∨ d4 = L) from by omega))
    have BL := Hi (BL.out.trans (hC.below BL.out.size (fun k hk => by rcases hk with hk | hk <;> (rw [hk]; assumption))))
    have PX := Hi hP
    clear hP hC
    have ltA := PX.out.src.lt
    obtain ⟨d9, hd9⟩ : ∃ d, w4.heap.size = d := ⟨_, rfl⟩
    rw [hd9] at ltA
    have O9 := Hi ((obj1_new w4 #[.int .i64 0, .int .i64 0, .int .i64 0, .bool false, .int .i64 0, .int .i64 0, .int .i64 0, .int .i64 0, .int .i64 0, .int .i64 0, .int .i64 0, .int .i64 0, .int .i64 0, .int .i64 0, .int .i64 0, .int .i64 0] 37).alloc (.cells #[.int .i64 0, .int .i64 0, .int .i64 0] 39))
    have O10 := Hi (obj1_new (w4.alloc (.cells #[.int .i64 0, .int .i64 0, .int .i64 0, .bool false, .int .i64 0, .int .i64 0, .int .i64 0, .int .i64 0, .int .i64 0, .int .i64 0, .int .i64 0, .int .i64 0, .int .i64 0, .int .i64 0, .int .i64 0, .int .i64 0] 37)) #[.int .i64 0, .int .i64 0, .int .i64 0] 39)
    rw [show (w4.alloc (.cells #[.int .i64 0, .int .i64 0, .int .i64 0, .bool false, .int .i64 0, .int .i64 0, .int .i64 0, .int .i64 0, .int .i64 0, .int .i64 0, .int .i64 0, .int .i64 0, .int .i64 0, .int .i64 0, .int .i64 0, .int .i64 0] 37)).heap.size = d9 + 1 by rw [← hd9]; simp] at O10
    rw [hd9] at O9
    have hal := ((Chg.refl (fun _ => False) w4).alloc (.cells #[.int .i64 0, .int .i64 0, .int .i64 0, .bool false, .int .i64 0, .int .i64 0, .int .i64 0, .int .i64 0, .int .i64 0, .int .i64 0, .int .i64 0, .int .i64 0, .int .i64 0, .int .i64 0, .int .i64 0, .int .i64 0] 37)).alloc (.cells #[.int .i64 0, .int .i64 0, .int .i64 0] 39)
    have O4 := Hi (hal.obj O4.out (fun h => h))
    have PX := Hi (show Pair _ X ⟨L, s, 0, s.size, en⟩ l1 from ⟨PX.out.src.chg hal (fun h => h), PX.out.led.chg hal (fun h => h)⟩)
    have BL := Hi (BL.out.trans (hal.below BL.out.size (fun _ h => h.elim)))
    clear hal
    go_upto_region 9 with (first
      | (refine store_o rfl 37 16 _ _ rfl d9 ([.int .i64 sz, .int .i64 W, .int .i64 Hh, .bool false, .int .i64 dn, .int .i64 mt, .int .i64 co, .int .i64 0, .int .i64 0, .int .i64 0, .int .i64 0, .int .i64 0, .int .i64 0, .int .i64 0, .int .i64 0, .int .i64 0]) rfl rfl (by kernel_rfl) (by kernel_rfl) (by kernel_rfl) O9.out (by first | rfl | simp) ?_; intro ws hst hO; have hcs := Stored.chgS (S := fun k => k = d9) hst (Chg.refl _ _) (Or.inl rfl); have O9 := Hi hO; have O4 := Hi (hcs.obj O4.out (show ¬ d4 = d9 by omega)); have PX := Hi (show Pair _ X ⟨L, s, 0, s.size, en⟩ l1 from ⟨PX.out.src.chg hcs (show ¬ X = d9 by omega), PX.out.led.chg hcs (show ¬ L = d9 by omega)⟩); have O10 := Hi (hcs.obj O10.out (show ¬ (d9 + 1) = d9 by omega)); have BL := Hi (BL.out.trans (hcs.below BL.out.size (fun k hk => by rw [hk]; omega))); clear hst hO hcs)
      | (refine store_o rfl 39 3 _ _ rfl (d9 + 1) [.int .i64 0, .int .i64 0, .int .i64 0] rfl rfl (by kernel_rfl) (by kernel_rfl) (by kernel_rfl) O10.out (by first | rfl | simp) ?_; intro ws hst hO; have hcs := Stored.chgS (S := fun k => k = (d9 + 1)) hst (Chg.refl _ _) (Or.inl rfl); have O10 := Hi hO; have O4 := Hi (hcs.obj O4.out (show ¬ d4 = (d9 + 1) by omega)); have PX := Hi (show Pair _ X ⟨L, s, 0, s.size, en⟩ l1 from ⟨PX.out.src.chg hcs (show ¬ X = (d9 + 1) by omega), PX.out.led.chg hcs (show ¬ L = (d9 + 1) by omega)⟩); have O9 := Hi (hcs.obj O9.out (show ¬ d9 = (d9 + 1) by omega)); have BL := Hi (BL.out.trans (hcs.below BL.out.size (fun k hk => by rw [hk]; omega))); clear hst hO hcs))
    clear hd9
    have q100 := (O10.out.cell 0).trans (show _ = some (.int .i64 0) from rfl)
    have q41 := (O4.out.cell 1).trans (show _ = some (.int .i64 W) from rfl)
    have q91 := (O9.out.cell 1).trans (show _ = some (.int .i64 W) from rfl)
    have q42 := (O4.out.cell 2).trans (show _ = some (.int .i64 Hh) from rfl)
    have q92 := (O9.out.cell 2).trans (show _ = some (.int .i64 Hh) from rfl)
    go_upto_region 11 with (first
      | ((with_reducible refine skip_g rfl ?_ ?_); rfl; intro _))
    clear q100 q41 q42 q91 q92
    have HTB := Hi (fun w0 (h0 : Pair w0 X ⟨L, s, 0, s.size, en⟩ l1) => (show Calls Tryz.prog 19 #[.pointer (some ⟨X, 0, none⟩), .agg (List.toArray [.int .i64 sz, .int .i64 W, .int .i64 Hh, .bool false, .int .i64 dn, .int .i64 mt, .int .i64 co, .int .i64 0, .int .i64 0, .int .i64 0, .int .i64 0, .int .i64 0, .int .i64 0, .int .i64 0, .int .i64 0, .int .i64 0]), .int .i64 f] w0 (fun e w' => (en + nb ≤ s.size → TabGood w0 X ⟨L, s, 0, s.size, en⟩ l1 kd co e w') ∧ (s.size < en + nb → TabBad w0 X ⟨L, s, 0, s.size, en⟩ f e w')) from by
      have h := table_rich sz W Hh false dn mt co 0 0 0 0 0 0 0 0 0 X ⟨L, s, 0, s.size, en⟩ l1 f kd w0 h0 (by have := HDN.out.1; omega) HB.out.2.2.1 HB.out.2.2.2.1 HKD.out HL1.out.1 (by rw [HL1.out.2.1, HL1.out.2.2.1]; have := HB.out.2.2.2.1; omega) (by have := HL1.out; have := HB.out.2.2.2.1; omega)
      rw [← HNB.out] at h
      exact h))
    have ltB := O10.out.lt
    go_wp2_with (first
      | (refine load_u (by kernel_rfl) 37 16 _ rfl d9 [.int .i64 sz, .int .i64 W, .int .i64 Hh, .bool false, .int .i64 dn, .int .i64 mt, .int .i64 co, .int .i64 0, .int .i64 0, .int .i64 0, .int .i64 0, .int .i64 0, .int .i64 0, .int .i64 0, .int .i64 0, .int .i64 0] rfl rfl O9.out Tryz.underlying37 rfl (by kernel_rfl) ?_; intro _))
    with_reducible refine (HTB.out _ PX.out).mono ?_
    intro e w5 hpo
    by_cases hin : s.size < en + nb
    · skip
      obtain ⟨y, m, rfl, -, -, hC⟩ := hpo.2 hin
      clear hpo
      have hC : Chg (fun k => k = X ∨ k = L) _ _ := hC
      have O4 := Hi (hC.obj O4.out (show ¬ (d4 = X ∨ d4 = L) from by omega))
      have O9 := Hi (hC.obj O9.out (show ¬ (d9 = X ∨ d9 = L) from by omega))
      have O10 := Hi (hC.obj O10.out (show ¬ ((d9 + 1) = X ∨ (d9 + 1) = L) from by omega))
      have BL := Hi (BL.out.trans (hC.below BL.out.size (fun k hk => by rcases hk with hk | hk <;> (rw [hk]; assumption))))
      clear hC PX
      go_upto_region 12 with (first
        | (refine store_o rfl 39 3 _ _ rfl (d9 + 1) [.int .i64 1, .int .i64 f, .int .i64 s.size] rfl rfl (by kernel_rfl) (by kernel_rfl) (by kernel_rfl) O10.out (by first | rfl | simp) ?_; intro ws hst hO; have hcs := Stored.chgS (S := fun k => k = (d9 + 1)) hst (Chg.refl _ _) (Or.inl rfl); have O10 := Hi hO; have O4 := Hi (hcs.obj O4.out (show ¬ d4 = (d9 + 1) by omega)); have O9 := Hi (hcs.obj O9.out (show ¬ d9 = (d9 + 1) by omega)); have BL := Hi (BL.out.trans (hcs.below BL.out.size (fun k hk => by rw [hk]; omega))); clear hst hO hcs))
      have HT := HT21.out
      unfold Table21Post at HT
      simp only [if_pos hin] at HT
      have HT21 := Hi HT
      clear HT
      go_wp2_with (first
        | (refine load_u (by kernel_rfl) 52 15 _ rfl d4 [.int .i64 sz, .int .i64 W, .int .i64 Hh, .bool false, .int .i64 dn, .int .i64 mt, .int .i64 co, .int .i64 r, .int .i64 g, .int .i64 b, .int .i64 q, .int .i64 0, .int .i64 en, .int .i64 0, .int .i64 0] rfl rfl O4.out Tryz.underlying52 rfl (by kernel_rfl) ?_; intro _))
      with_reducible refine (HT21.out _).mono ?_
      rintro e w6 ⟨rfl, hb⟩
      have hC := chg_of_below hb (fun _ => False)
      clear hb
      have O4 := Hi (hC.obj O4.out (fun h => h))
      have O9 := Hi (hC.obj O9.out (fun h => h))
      have O10 := Hi (hC.obj O10.out (fun h => h))
      have BL := Hi (BL.out.trans (hC.below BL.out.size (fun _ h => h.elim)))
      clear hC
      have ltC := O10.out.lt
      obtain ⟨d12, hd12⟩ : ∃ d, w6.heap.size = d := ⟨_, rfl⟩
      have O12 := Hi (obj1_new w6 #[.int .i64 0, .slice none 0 0, .int .i64 0, .int .i64 0] 56)
      rw [hd12] at O12 ltC
      have hal := (Chg.refl (fun _ => False) w6).alloc (.cells #[.int .i64 0, .slice none 0 0, .int .i64 0, .int .i64 0] 56)
      have O4 := Hi (hal.obj O4.out (fun h => h))
      have O9 := Hi (hal.obj O9.out (fun h => h))
      have O10 := Hi (hal.obj O10.out (fun h => h))
      have BL := Hi (BL.out.trans (hal.below BL.out.size (fun _ h => h.elim)))
      clear hal
      go_upto_region 13 with (first
        | (refine store_o rfl 56 4 _ _ rfl d12 [.int .i64 0, .slice none 0 0, .int .i64 1, .int .i64 s.size] rfl rfl (by kernel_rfl) (by kernel_rfl) (by kernel_rfl) O12.out (by first | rfl | simp) ?_; intro ws hst hO; have hcs := Stored.chgS (S := fun k => k = d12) hst (Chg.refl _ _) (Or.inl rfl); have O12 := Hi hO; have O4 := Hi (hcs.obj O4.out (show ¬ d4 = d12 by omega)); have O9 := Hi (hcs.obj O9.out (show ¬ d9 = d12 by omega)); have O10 := Hi (hcs.obj O10.out (show ¬ (d9 + 1) = d12 by omega)); have BL := Hi (BL.out.trans (hcs.below BL.out.size (fun k hk => by rw [hk]; omega))); clear hst hO hcs))
      clear hd12
      have q12 := (O12.out.cell 2).trans (show _ = some (.int .i64 1) from rfl)
      have q10 := (O10.out.cell 0).trans (show _ = some (.int .i64 1) from rfl)
      go_upto_region 14 with (first
        | ((with_reducible refine skip_g rfl ?_ ?_); rfl; intro _))
      go_wp2_with fail
      with_reducible refine (awake22 _).mono ?_
      rintro e w10 ⟨rfl, hb⟩
      have BL := Hi (bthen hb BL.out BL.out.size)
      clear hb
      go_wp2_with fail
      go_ret
      exact ⟨rfl, BL.out⟩
    · skip
      obtain ⟨P, p, rfl, hpal, hP, hP1, hP2, hP3, htab, hC⟩ := hpo.1 (by omega)
      clear hpo
      have hC : Chg (fun k => k = X ∨ k = L) _ _ := hC
      obtain ⟨l2, hl2⟩ : ∃ l2 : Led, ({ (l1.take (4 * (co : Int))).1 with st := l1.st + co } : Led) = l2 := ⟨_, rfl⟩
      have HL2 := Hi (show (l2.br = false ∧ l2.bt ≤ 1024 ∧ 0 ≤ l2.bt ∧ l2.mb = 20000 ∧ l2.mw = 40 ∧ l2.mh = 40 ∧ l2.mx = 1000000 ∧ 0 ≤ l2.st ∧ l2.st ≤ 259) by
        obtain ⟨a1, a2, a3, a4, a5, a6, a7, a8⟩ := HL1.out
        have hco := HB.out.2.2.2.1
        have htk : l1.take (4 * (co : Int)) = ({ l1 with bt := l1.bt + 4 * (co : Int), pk := if l1.bt + 4 * (co : Int) ≤ l1.pk then l1.pk else l1.bt + 4 * (co : Int) }, true) := by
          unfold Led.take; rw [if_neg (by rw [a1]; decide), if_neg (by rw [a2, a3]; omega)]
        rw [← hl2, htk]
        exact ⟨a1, by show l1.bt + 4 * (co : Int) ≤ 1024; rw [a2]; omega, by show 0 ≤ l1.bt + 4 * (co : Int); rw [a2]; omega, a3, a4, a5, a6, by show 0 ≤ l1.st + (co : Int); omega, by show l1.st + (co : Int) ≤ 259; omega⟩)
      obtain ⟨pl, hpl⟩ : ∃ n, n = en + nb := ⟨_, rfl⟩
      have HPL := Hi hpl
      have hple : pl ≤ s.size := by omega
      have hP : Pair w5 X ⟨L, s, 0, s.size, pl⟩ l2 := by rw [← hl2, hpl, HNB.out]; exact hP
      have htab : TabOf s en kd co L p := htab
      have O4 := Hi (hC.obj O4.out (show ¬ (d4 = X ∨ d4 = L) from by omega))
      have O9 := Hi (hC.obj O9.out (show ¬ (d9 = X ∨ d9 = L) from by omega))
      have O10 := Hi (hC.obj O10.out (show ¬ ((d9 + 1) = X ∨ (d9 + 1) = L) from by omega))
      have BL := Hi (BL.out.trans (hC.below BL.out.size (fun k hk => by rcases hk with hk | hk <;> (rw [hk]; assumption))))
      have PX := Hi hP
      have HPAL := Hi hpal
      have HTAB := Hi htab
      obtain ⟨pB, hpB⟩ : ∃ v, p.B = v := ⟨_, rfl⟩
      obtain ⟨pg, hpg⟩ : ∃ v, p.b.g = v := ⟨_, rfl⟩
      have HpB := Hi hpB
      have Hpg := Hi hpg
      rw [hpB] at hP2
      rw [hpg] at hP3
      have m1 : d9 + 1 < P := by omega
      have m2 : d9 + 1 < pB := by omega
      have m3 : d9 + 1 < pg := by omega
      clear hpl hP hpal htab hP1 hP2 hP3 hl2 hpB hpg hC ltB
      go_upto_region 12 with (first
        | (refine store_o rfl 39 3 _ _ rfl (d9 + 1) [.int .i64 0, .int .i64 0, .int .i64 0] rfl rfl (by kernel_rfl) (by kernel_rfl) (by kernel_rfl) O10.out (by first | rfl | simp) ?_; intro ws hst hO; have hcs := Stored.chgS (S := fun k => k = (d9 + 1)) hst (Chg.refl _ _) (Or.inl rfl); have O10 := Hi hO; have O4 := Hi (hcs.obj O4.out (show ¬ d4 = (d9 + 1) by omega)); have O9 := Hi (hcs.obj O9.out (show ¬ d9 = (d9 + 1) by omega)); have PX := Hi (show Pair _ X ⟨L, s, 0, s.size, pl⟩ l2 from ⟨PX.out.src.chg hcs (show ¬ X = (d9 + 1) by omega), PX.out.led.chg hcs (show ¬ L = (d9 + 1) by omega)⟩); have HPAL := Hi (HPAL.out.chg hcs (show ¬ P = (d9 + 1) by omega) (show ¬ (p.B = (d9 + 1)) from by rw [HpB.out]; omega) (show ¬ (p.b.g = (d9 + 1)) from by rw [Hpg.out]; omega)); have BL := Hi (BL.out.trans (hcs.below BL.out.size (fun k hk => by rw [hk]; omega))); clear hst hO hcs))
      have HT := HT21.out
      unfold Table21Post at HT
      simp only [if_neg hin] at HT
      have HT21 := Hi HT
      clear HT
      have ltC := O10.out.lt
      go_wp2_with (first
        | (refine load_u (by kernel_rfl) 52 15 _ rfl d4 [.int .i64 sz, .int .i64 W, .int .i64 Hh, .bool false, .int .i64 dn, .int .i64 mt, .int .i64 co, .int .i64 r, .int .i64 g, .int .i64 b, .int .i64 q, .int .i64 0, .int .i64 en, .int .i64 0, .int .i64 0] rfl rfl O4.out Tryz.underlying52 rfl (by kernel_rfl) ?_; intro _))
      with_reducible refine (HT21.out _).mono ?_
      intro e w6 hpo
      obtain ⟨hpo, hb⟩ := hpo
      rw [if_pos HDN.out.1] at hpo
      obtain ⟨v, rfl, how⟩ := hpo
      rw [show (en : Int) + (nb : Int) = (pl : Int) by rw [HPL.out]; omega]
      obtain ⟨gt, ct, rfl, hg1, hg2⟩ := owns_form4 how (by have := HB.out.2.2.1; omega)
      obtain ⟨bt, how⟩ : ∃ bt, w6.ownsRow bt 185 4 (.slice (some ⟨gt, 0, none⟩) co ct) co (colsL (s.extract en s.size) kd co) := ⟨_, how⟩
      have hC := chg_of_below hb (fun _ => False)
      clear hb
      have O4 := Hi (hC.obj O4.out (fun h => h))
      have O9 := Hi (hC.obj O9.out (fun h => h))
      have O10 := Hi (hC.obj O10.out (fun h => h))
      have PX := Hi (show Pair _ X ⟨L, s, 0, s.size, pl⟩ l2 from ⟨PX.out.src.chg hC (fun h => h), PX.out.led.chg hC (fun h => h)⟩)
      have HPAL := Hi (HPAL.out.chg hC (fun h => h) (fun h => h) (fun h => h))
      have BL := Hi (BL.out.trans (hC.below BL.out.size (fun _ h => h.elim)))
      have m4 : d9 + 1 < gt := by omega
      have OWN := Hi how
      clear hC how hg1 ltC
      have n0 := O10.out.lt
      have n1 := HPAL.out.lt
      have n2 := HPAL.out.buf.lt
      have n3 := HPAL.out.buf.glt HPAL.out.opn
      rw [HpB.out] at n2
      rw [Hpg.out] at n3
      obtain ⟨d12, hd12⟩ : ∃ d, w6.heap.size = d := ⟨_, rfl⟩
      have O12 := Hi (obj1_new w6 #[.int .i64 0, .slice none 0 0, .int .i64 0, .int .i64 0] 56)
      rw [hd12] at O12 n0 n1 n2 n3 hg2
      have hal := (Chg.refl (fun _ => False) w6).alloc (.cells #[.int .i64 0, .slice none 0 0, .int .i64 0, .int .i64 0] 56)
      have O4 := Hi (hal.obj O4.out (fun h => h))
      have O9 := Hi (hal.obj O9.out (fun h => h))
      have O10 := Hi (hal.obj O10.out (fun h => h))
      have PX := Hi (show Pair _ X ⟨L, s, 0, s.size, pl⟩ l2 from ⟨PX.out.src.chg hal (fun h => h), PX.out.led.chg hal (fun h => h)⟩)
      have HPAL := Hi (HPAL.out.chg hal (fun h => h) (fun h => h) (fun h => h))
      have OWN := Hi (owns_chg OWN.out hal (fun h => h))
      have BL := Hi (BL.out.trans (hal.below BL.out.size (fun _ h => h.elim)))
      clear hal
      go_upto_region 13 with (first
        | (refine store_o rfl 56 4 _ _ rfl d12 [.int .i64 pl, .slice (some ⟨gt, 0, none⟩) co ct, .int .i64 0, .int .i64 0] rfl rfl (by kernel_rfl) (by kernel_rfl) (by kernel_rfl) O12.out (by first | rfl | simp) ?_; intro ws hst hO; have hcs := Stored.chgS (S := fun k => k = d12) hst (Chg.refl _ _) (Or.inl rfl); have O12 := Hi hO; have O4 := Hi (hcs.obj O4.out (show ¬ d4 = d12 by omega)); have O9 := Hi (hcs.obj O9.out (show ¬ d9 = d12 by omega)); have O10 := Hi (hcs.obj O10.out (show ¬ (d9 + 1) = d12 by omega)); have PX := Hi (show Pair _ X ⟨L, s, 0, s.size, pl⟩ l2 from ⟨PX.out.src.chg hcs (show ¬ X = d12 by omega), PX.out.led.chg hcs (show ¬ L = d12 by omega)⟩); have HPAL := Hi (HPAL.out.chg hcs (show ¬ P = d12 by omega) (show ¬ (p.B = d12) from by rw [HpB.out]; omega) (show ¬ (p.b.g = d12) from by rw [Hpg.out]; omega)); have OWN := Hi (owns_chg OWN.out hcs (show ¬ gt = d12 by omega)); have BL := Hi (BL.out.trans (hcs.below BL.out.size (fun k hk => by rw [hk]; omega))); clear hst hO hcs))
      clear hd12
      have q12 := (O12.out.cell 2).trans (show _ = some (.int .i64 0) from rfl)
      have q10 := (O10.out.cell 0).trans (show _ = some (.int .i64 0) from rfl)
      go_upto_region 15 with (first
        | ((with_reducible refine skip_g rfl ?_ ?_); rfl; intro _))
      clear q12 q10
      have q41 := (O4.out.cell 1).trans (show _ = some (.int .i64 W) from rfl)
      have q42 := (O4.out.cell 2).trans (show _ = some (.int .i64 Hh) from rfl)
      have hWH : W * Hh ≤ 1600 := Nat.mul_le_mul (show W ≤ 40 by omega) (show Hh ≤ 40 by omega)
      have HWH := Hi hWH
      clear hWH
      have HRN := Hi (fun w0 (h0 : LedAt w0 L l2) => (show Calls Tryz.prog 20 #[.pointer (some ⟨L, 0, none⟩), .int .i64 W, .int .i64 Hh] w0 (RasGood w0 L l2 W Hh) from
        ras_rich L l2 W Hh w0 h0 HL2.out.1 HB.out.1 (by rw [HL2.out.2.2.2.2.1]; exact hW2) HB.out.2.1 (by rw [HL2.out.2.2.2.2.2.1]; exact hH2) (by rw [HL2.out.2.2.2.2.1, HL2.out.2.2.2.2.2.1]; decide) (by have := HL2.out; have := HWH.out; omega)))
      have k0 := O12.out.lt
      go_wp2_with fail
      with_reducible refine (HRN.out _ PX.out.led).mono ?_
      rintro e w7 ⟨RR, rB, rg, rfl, hL, hras, hR1, hR2, hR3, hC⟩
      clear q41 q42
      have hC : Chg (fun k => k = L) _ _ := hC
      obtain ⟨l3, hl3⟩ : ∃ l3 : Led, (l2.take ((W * Hh * 4 : Nat) : Int)).1 = l3 := ⟨_, rfl⟩
      rw [hl3] at hL
      have HL3 := Hi (show l3.br = false ∧ l3.mx = 1000000 ∧ 0 ≤ l3.st ∧ l3.st ≤ 259 by
        obtain ⟨a1, a2, a2', a3, a4, a5, a6, a7, a8⟩ := HL2.out
        have hw := HWH.out
        have htk : (l2.take ((W * Hh * 4 : Nat) : Int)).1 = { l2 with bt := l2.bt + ((W * Hh * 4 : Nat) : Int), pk := if l2.bt + ((W * Hh * 4 : Nat) : Int) ≤ l2.pk then l2.pk else l2.bt + ((W * Hh * 4 : Nat) : Int) } := by
          unfold Led.take; rw [if_neg (by rw [a1]; decide), if_neg (by omega)]
        rw [← hl3, htk]
        exact ⟨a1, a6, a7, a8⟩)
      have PY := Hi (show Pair w7 X ⟨L, s, 0, s.size, pl⟩ l3 from ⟨PX.out.src.chg hC (show ¬ X = L by omega), hL⟩)
      have O4 := Hi (hC.obj O4.out (show ¬ d4 = L by omega))
      have O9 := Hi (hC.obj O9.out (show ¬ d9 = L by omega))
      have O10 := Hi (hC.obj O10.out (show ¬ (d9 + 1) = L by omega))
      have HPAL := Hi (HPAL.out.chg hC (show ¬ P = L by omega) (show ¬ (p.B = L) from by rw [HpB.out]; omega) (show ¬ (p.b.g = L) from by rw [Hpg.out]; omega))
      have OWN := Hi (owns_chg OWN.out hC (show ¬ gt = L by omega))
      have O12 := Hi (hC.obj O12.out (show ¬ d12 = L by omega))
      have BL := Hi (BL.out.trans (hC.below BL.out.size (fun k hk => by rw [hk]; omega)))
      have PX := Hi PY.out
      have HRAS := Hi hras
      have r1 : d12 < RR := by omega
      have r2 : d12 < rB := by omega
      have r3 : d12 < rg := by omega
      have HAP := Hi (show RleApart X P RR ⟨L, s, 0, s.size, pl⟩ p ⟨L, W, Hh, rB, true, ⟨L, rg, zeros8 (W * Hh * 4), true⟩⟩ from
        ⟨rfl, by show X ≠ rg; omega, by show P ≠ rg; omega, by show p.B ≠ rg; rw [HpB.out]; omega, by show p.b.g ≠ rg; rw [Hpg.out]; omega, by show P ≠ L; omega, by show p.B ≠ L; rw [HpB.out]; omega, by show p.b.g ≠ L; rw [Hpg.out]; omega, by omega, by rw [HpB.out]; omega, by rw [Hpg.out]; omega, by omega, by show rB ≠ X; omega⟩)
      clear hL hras hR1 hR2 hR3 hC hl3 PY k0
      go_upto_region 18 with (first
        | ((with_reducible refine skip_g rfl ?_ ?_); rfl; intro _))
      have HRL := Hi (fun w0 (h0 : Pair w0 X ⟨L, s, 0, s.size, pl⟩ l3) (h1 : PalAt w0 P p) (h2 : RasAt w0 RR ⟨L, W, Hh, rB, true, ⟨L, rg, zeros8 (W * Hh * 4), true⟩⟩) =>
        (show Calls Tryz.prog 22 #[.pointer (some ⟨X, 0, none⟩), .agg (List.toArray [.int .i64 sz, .int .i64 W, .int .i64 Hh, .bool false, .int .i64 dn, .int .i64 mt, .int .i64 co, .int .i64 0, .int .i64 0, .int .i64 0, .int .i64 0, .int .i64 0, .int .i64 0, .int .i64 0, .int .i64 0, .int .i64 0]), .pointer (some ⟨P, 0, none⟩), .pointer (some ⟨RR, 0, none⟩), .int .i64 f] w0 (RleRich w0 X RR ⟨L, s, 0, s.size, pl⟩ l3 p ⟨L, W, Hh, rB, true, ⟨L, rg, zeros8 (W * Hh * 4), true⟩⟩ W Hh co dn f (colsL (s.extract en s.size) kd co) (s.size + 1)) from
          rle_rich X P RR sz W Hh false dn mt co 0 0 0 0 0 0 0 0 0 f ⟨L, s, 0, s.size, pl⟩ l3 p ⟨L, W, Hh, rB, true, ⟨L, rg, zeros8 (W * Hh * 4), true⟩⟩ (s.size + 1) kd en co w0 h0 h1 h2 HAP.out rfl rfl rfl HDN.out.2.2 (by show s.size < _; omega) (by show s.size < pl + (s.size + 1); omega)
            HK34.out HTAB.out (by show en + kd * co ≤ s.size; rw [← HNB.out]; omega) HL3.out.1 (by have := HL3.out; have := HWH.out; have h16 : (W : Int) * (Hh : Int) = ((W * Hh : Nat) : Int) := (Int.natCast_mul W Hh).symm; show l3.st + (s.size : Int) + (W : Int) * (Hh : Int) + 1 < l3.mx; rw [h16]; omega)))
      go_wp2_with (first
        | (refine load_u (by kernel_rfl) 37 16 _ rfl d9 [.int .i64 sz, .int .i64 W, .int .i64 Hh, .bool false, .int .i64 dn, .int .i64 mt, .int .i64 co, .int .i64 0, .int .i64 0, .int .i64 0, .int .i64 0, .int .i64 0, .int .i64 0, .int .i64 0, .int .i64 0, .int .i64 0] rfl rfl O9.out Tryz.underlying37 rfl (by kernel_rfl) ?_; intro _))
      with_reducible refine (HRL.out _ PX.out HPAL.out HRAS.out).mono ?_
      rintro e w8 ⟨⟨y, m, dd, k, t, rfl, -, -, -, hra2, -, -, hmt⟩, hC⟩
      have hC : Chg (fun k => k = X ∨ k = L ∨ k = rg) _ _ := hC
      have hrgw : w.heap.size ≤ rg := by omega
      have O4 := Hi (hC.obj O4.out (show ¬ (d4 = X ∨ d4 = L ∨ d4 = rg) from by omega))
      have O9 := Hi (hC.obj O9.out (show ¬ (d9 = X ∨ d9 = L ∨ d9 = rg) from by omega))
      have O10 := Hi (hC.obj O10.out (show ¬ ((d9 + 1) = X ∨ (d9 + 1) = L ∨ (d9 + 1) = rg) from by omega))
      have OWN := Hi (owns_chg OWN.out hC (show ¬ (gt = X ∨ gt = L ∨ gt = rg) from by omega))
      have O12 := Hi (hC.obj O12.out (show ¬ (d12 = X ∨ d12 = L ∨ d12 = rg) from by omega))
      have BL := Hi (BL.out.trans (hC.below BL.out.size (fun k hk => by rcases hk with hk | hk | hk <;> (rw [hk]; assumption))))
      have HRAS := Hi (show RasAt w8 RR ⟨L, W, Hh, rB, true, ⟨L, rg, dd, true⟩⟩ from hra2)
      obtain ⟨RV, hRV⟩ : ∃ R, rle22 s (colsL (s.extract en s.size) kd co) co W Hh dn s.size (s.size + 1) ⟨0, 0, pl, zC (W * Hh)⟩ = R := ⟨_, rfl⟩
      have hmt : RleSays (rle22 s (colsL (s.extract en s.size) kd co) co W Hh dn s.size (s.size + 1) ⟨0, 0, pl, u8s (zeros8 (W * Hh * 4))⟩) t dd := hmt
      rw [zC_zeros, hRV] at hmt
      have HR22 := Hi (fun w0 (h0 : w0.ownsRow bt 185 4 (.slice (some ⟨gt, 0, none⟩) co ct) co (colsL (s.extract en s.size) kd co)) => (show Calls Tryz.prog 25 #[.string s, .int .i64 pl, .int .i64 s.size, .agg (List.toArray [.int .i64 sz, .int .i64 W, .int .i64 Hh, .bool false, .int .i64 dn, .int .i64 mt, .int .i64 co, .int .i64 r, .int .i64 g, .int .i64 b, .int .i64 q, .int .i64 0, .int .i64 en, .int .i64 0, .int .i64 0]), .slice (some ⟨gt, 0, none⟩) co ct] w0 (Read22Post w0 W Hh (W * Hh) RV) from by
        have h := read22_any sz W Hh false dn mt co r g b q 0 en s pl s.size (W * Hh) co gt ct bt (s.size + 1) (colsL (s.extract en s.size) kd co) w0 rfl (by omega) (by omega) HB.out.1 HB.out.2.1 HB.out.2.2.2.1 hple (Nat.le_refl _) (by omega) (by omega) HDN.out.2.1 h0 (colsL_all _ _ _)
        rw [hRV] at h
        exact h))
      clear hra2 hRV hC PX HPAL
      rcases RV with z | Lr
      · obtain ⟨z1, z2⟩ := z
        obtain ⟨rfl, hz⟩ := (show t = (z1, z2) ∧ z1 ≠ 0 from hmt)
        have hfc : fc f (z1, z2) = [.int .i64 z1, .int .i64 f, .int .i64 z2] := by unfold fc; simp only; rw [if_neg hz]
        rw [hfc]
        clear hfc
        have HR22 := Hi (fun w0 (h0 : w0.ownsRow bt 185 4 (.slice (some ⟨gt, 0, none⟩) co ct) co (colsL (s.extract en s.size) kd co)) => (HR22.out w0 h0).mono (R' := fun e w' => e = .returned (.agg (List.toArray [.int .i64 0, .int .i64 0, .slice none 0 0, .int .i64 z1, .int .i64 z2])) ∧ Below w0.heap.size w0 w') fun e w' h => h)
        clear hmt
        go_upto_region 19 with (first
          | (refine store_o rfl 39 3 _ _ rfl (d9 + 1) [.int .i64 z1, .int .i64 f, .int .i64 z2] rfl rfl (by kernel_rfl) (by kernel_rfl) (by kernel_rfl) O10.out (by first | rfl | simp) ?_; intro ws hst hO; have hcs := Stored.chgS (S := fun k => k = (d9 + 1)) hst (Chg.refl _ _) (Or.inl rfl); have O10 := Hi hO; have O4 := Hi (hcs.obj O4.out (show ¬ d4 = (d9 + 1) by omega)); have O9 := Hi (hcs.obj O9.out (show ¬ d9 = (d9 + 1) by omega)); have OWN := Hi (owns_chg OWN.out hcs (show ¬ gt = (d9 + 1) by omega)); have O12 := Hi (hcs.obj O12.out (show ¬ d12 = (d9 + 1) by omega)); have HRAS := Hi (HRAS.out.chg hcs (show ¬ RR = (d9 + 1) by omega) (show ¬ rB = (d9 + 1) by omega) (show ¬ rg = (d9 + 1) by omega)); have BL := Hi (BL.out.trans (hcs.below BL.out.size (fun k hk => by rw [hk]; omega))); clear hst hO hcs))
        have q120 := (O12.out.cell 0).trans (show _ = some (.int .i64 pl) from rfl)
        have q121 := (O12.out.cell 1).trans (show _ = some (.slice (some ⟨gt, 0, none⟩) co ct) from rfl)
        have j0 := O12.out.lt
        have j1 := HRAS.out.lt
        have j2 := HRAS.out.buf.lt
        have j3 := HRAS.out.buf.glt rfl
        go_wp2_with (first
          | (refine load_u (by kernel_rfl) 52 15 _ rfl d4 [.int .i64 sz, .int .i64 W, .int .i64 Hh, .bool false, .int .i64 dn, .int .i64 mt, .int .i64 co, .int .i64 r, .int .i64 g, .int .i64 b, .int .i64 q, .int .i64 0, .int .i64 en, .int .i64 0, .int .i64 0] rfl rfl O4.out Tryz.underlying52 rfl (by kernel_rfl) ?_; intro _))
        with_reducible refine (HR22.out _ OWN.out).mono ?_
        rintro e w9 ⟨rfl, hb⟩
        clear q120 q121
        have hC := chg_of_below hb (fun _ => False)
        clear hb
        have O4 := Hi (hC.obj O4.out (fun h => h))
        have O9 := Hi (hC.obj O9.out (fun h => h))
        have O10 := Hi (hC.obj O10.out (fun h => h))
        have OWN := Hi (owns_chg OWN.out hC (fun h => h))
        have O12 := Hi (hC.obj O12.out (fun h => h))
        have HRAS := Hi (HRAS.out.chg hC (fun h => h) (fun h => h) (fun h => h))
        have BL := Hi (BL.out.trans (hC.below BL.out.size (fun _ h => h.elim)))
        clear hC
        obtain ⟨d15, hd15⟩ : ∃ d, w9.heap.size = d := ⟨_, rfl⟩
        have O15 := Hi (obj1_new w9 #[.int .i64 0, .int .i64 0, .slice none 0 0, .int .i64 0, .int .i64 0] 59)
        have j4 := O12.out.lt
        have j5 := HRAS.out.lt
        have j6 := HRAS.out.buf.lt
        have j7 := HRAS.out.buf.glt rfl
        have j8 := (owns_lt OWN.out).2
        rw [hd15] at O15 j4 j5 j6 j7 j8
        have hal := (Chg.refl (fun _ => False) w9).alloc (.cells #[.int .i64 0, .int .i64 0, .slice none 0 0, .int .i64 0, .int .i64 0] 59)
        have O4 := Hi (hal.obj O4.out (fun h => h))
        have O9 := Hi (hal.obj O9.out (fun h => h))
        have O10 := Hi (hal.obj O10.out (fun h => h))
        have OWN := Hi (owns_chg OWN.out hal (fun h => h))
        have O12 := Hi (hal.obj O12.out (fun h => h))
        have HRAS := Hi (HRAS.out.chg hal (fun h => h) (fun h => h) (fun h => h))
        have BL := Hi (BL.out.trans (hal.below BL.out.size (fun _ h => h.elim)))
        clear hal
        go_upto_region 20 with (first
          | (refine store_o rfl 59 5 _ _ rfl d15 [.int .i64 0, .int .i64 0, .slice none 0 0, .int .i64 z1, .int .i64 z2] rfl rfl (by kernel_rfl) (by kernel_rfl) (by kernel_rfl) O15.out (by first | rfl | simp) ?_; intro ws hst hO; have hcs := Stored.chgS (S := fun k => k = d15) hst (Chg.refl _ _) (Or.inl rfl); have O15 := Hi hO; have O4 := Hi (hcs.obj O4.out (show ¬ d4 = d15 by omega)); have O9 := Hi (hcs.obj O9.out (show ¬ d9 = d15 by omega)); have O10 := Hi (hcs.obj O10.out (show ¬ (d9 + 1) = d15 by omega)); have OWN := Hi (owns_chg OWN.out hcs (show ¬ gt = d15 by omega)); have O12 := Hi (hcs.obj O12.out (show ¬ d12 = d15 by omega)); have HRAS := Hi (HRAS.out.chg hcs (show ¬ RR = d15 by omega) (show ¬ rB = d15 by omega) (show ¬ rg = d15 by omega)); have BL := Hi (BL.out.trans (hcs.below BL.out.size (fun k hk => by rw [hk]; omega))); clear hst hO hcs))
        clear hd15
        have q153 := (O15.out.cell 3).trans (show _ = some (.int .i64 z1) from rfl)
        have q154 := (O15.out.cell 4).trans (show _ = some (.int .i64 z2) from rfl)
        go_upto_region 21 with (fail)
        go_wp2_with (first
          | (refine load_u (by kernel_rfl) 39 3 _ rfl (d9 + 1) [.int .i64 z1, .int .i64 f, .int .i64 z2] rfl rfl O10.out Tryz.underlying39 rfl (by kernel_rfl) ?_; intro _))
        with_reducible refine (awake22 _).mono ?_
        rintro e w10 ⟨rfl, hb⟩
        have BL := Hi (bthen hb BL.out BL.out.size)
        clear hb
        go_wp2_with fail
        go_ret
        exact ⟨rfl, BL.out⟩
      · obtain ⟨rfl, hdd⟩ := (show t = (0, 0) ∧ u8s dd = Lr from hmt)
        subst hdd
        rw [show fc f (0, 0) = [.int .i64 0, .int .i64 0, .int .i64 0] from rfl]
        have HR22 := Hi (fun w0 (h0 : w0.ownsRow bt 185 4 (.slice (some ⟨gt, 0, none⟩) co ct) co (colsL (s.extract en s.size) kd co)) => (HR22.out w0 h0).mono (R' := fun e w' => ∃ gi ci, e = .returned (.agg (List.toArray [.int .i64 W, .int .i64 Hh, .slice (some ⟨gi, 0, none⟩) (W * Hh : Nat) ci, .int .i64 0, .int .i64 0])) ∧ w'.ownsRow w0.heap.size 185 4 (.slice (some ⟨gi, 0, none⟩) (W * Hh : Nat) ci) (W * Hh) (u8s dd) ∧ Below w0.heap.size w0 w') fun e w' h => h)
        clear hmt
        go_upto_region 19 with (first
          | (refine store_o rfl 39 3 _ _ rfl (d9 + 1) [.int .i64 0, .int .i64 0, .int .i64 0] rfl rfl (by kernel_rfl) (by kernel_rfl) (by kernel_rfl) O10.out (by first | rfl | simp) ?_; intro ws hst hO; have hcs := Stored.chgS (S := fun k => k = (d9 + 1)) hst (Chg.refl _ _) (Or.inl rfl); have O10 := Hi hO; have O4 := Hi (hcs.obj O4.out (show ¬ d4 = (d9 + 1) by omega)); have O9 := Hi (hcs.obj O9.out (show ¬ d9 = (d9 + 1) by omega)); have OWN := Hi (owns_chg OWN.out hcs (show ¬ gt = (d9 + 1) by omega)); have O12 := Hi (hcs.obj O12.out (show ¬ d12 = (d9 + 1) by omega)); have HRAS := Hi (HRAS.out.chg hcs (show ¬ RR = (d9 + 1) by omega) (show ¬ rB = (d9 + 1) by omega) (show ¬ rg = (d9 + 1) by omega)); have BL := Hi (BL.out.trans (hcs.below BL.out.size (fun k hk => by rw [hk]; omega))); clear hst hO hcs))
        have q120 := (O12.out.cell 0).trans (show _ = some (.int .i64 pl) from rfl)
        have q121 := (O12.out.cell 1).trans (show _ = some (.slice (some ⟨gt, 0, none⟩) co ct) from rfl)
        have j0 := O12.out.lt
        have j1 := HRAS.out.lt
        have j2 := HRAS.out.buf.lt
        have j3 := HRAS.out.buf.glt rfl
        go_wp2_with (first
          | (refine load_u (by kernel_rfl) 52 15 _ rfl d4 [.int .i64 sz, .int .i64 W, .int .i64 Hh, .bool false, .int .i64 dn, .int .i64 mt, .int .i64 co, .int .i64 r, .int .i64 g, .int .i64 b, .int .i64 q, .int .i64 0, .int .i64 en, .int .i64 0, .int .i64 0] rfl rfl O4.out Tryz.underlying52 rfl (by kernel_rfl) ?_; intro _))
        with_reducible refine (HR22.out _ OWN.out).mono ?_
        rintro e w9 ⟨gi, ci, rfl, how, hb⟩
        have hgi := how
        obtain ⟨bi, how⟩ : ∃ b, w9.ownsRow b 185 4 (.slice (some ⟨gi, 0, none⟩) (W * Hh : Nat) ci) (W * Hh) (u8s dd) := ⟨_, how⟩
        have OW2 := Hi how
        have j9 := (owns_blk hgi rfl).1
        clear how hgi
        clear q120 q121
        have hC := chg_of_below hb (fun _ => False)
        clear hb
        have O4 := Hi (hC.obj O4.out (fun h => h))
        have O9 := Hi (hC.obj O9.out (fun h => h))
        have O10 := Hi (hC.obj O10.out (fun h => h))
        have OWN := Hi (owns_chg OWN.out hC (fun h => h))
        have O12 := Hi (hC.obj O12.out (fun h => h))
        have HRAS := Hi (HRAS.out.chg hC (fun h => h) (fun h => h) (fun h => h))
        have BL := Hi (BL.out.trans (hC.below BL.out.size (fun _ h => h.elim)))
        clear hC
        obtain ⟨d15, hd15⟩ : ∃ d, w9.heap.size = d := ⟨_, rfl⟩
        have O15 := Hi (obj1_new w9 #[.int .i64 0, .int .i64 0, .slice none 0 0, .int .i64 0, .int .i64 0] 59)
        have j4 := O12.out.lt
        have j5 := HRAS.out.lt
        have j6 := HRAS.out.buf.lt
        have j7 := HRAS.out.buf.glt rfl
        have j8 := (owns_lt OWN.out).2
        have j10 := (owns_lt OW2.out).2
        rw [hd15] at O15 j4 j5 j6 j7 j8 j10
        have hal := (Chg.refl (fun _ => False) w9).alloc (.cells #[.int .i64 0, .int .i64 0, .slice none 0 0, .int .i64 0, .int .i64 0] 59)
        have O4 := Hi (hal.obj O4.out (fun h => h))
        have O9 := Hi (hal.obj O9.out (fun h => h))
        have O10 := Hi (hal.obj O10.out (fun h => h))
        have OWN := Hi (owns_chg OWN.out hal (fun h => h))
        have O12 := Hi (hal.obj O12.out (fun h => h))
        have HRAS := Hi (HRAS.out.chg hal (fun h => h) (fun h => h) (fun h => h))
        have OW2 := Hi (owns_chg OW2.out hal (fun h => h))
        have BL := Hi (BL.out.trans (hal.below BL.out.size (fun _ h => h.elim)))
        clear hal
        go_upto_region 20 with (first
          | (refine store_o rfl 59 5 _ _ rfl d15 [.int .i64 W, .int .i64 Hh, .slice (some ⟨gi, 0, none⟩) (W * Hh : Nat) ci, .int .i64 0, .int .i64 0] rfl rfl (by kernel_rfl) (by kernel_rfl) (by kernel_rfl) O15.out (by first | rfl | simp) ?_; intro ws hst hO; have hcs := Stored.chgS (S := fun k => k = d15) hst (Chg.refl _ _) (Or.inl rfl); have O15 := Hi hO; have O4 := Hi (hcs.obj O4.out (show ¬ d4 = d15 by omega)); have O9 := Hi (hcs.obj O9.out (show ¬ d9 = d15 by omega)); have O10 := Hi (hcs.obj O10.out (show ¬ (d9 + 1) = d15 by omega)); have OWN := Hi (owns_chg OWN.out hcs (show ¬ gt = d15 by omega)); have O12 := Hi (hcs.obj O12.out (show ¬ d12 = d15 by omega)); have HRAS := Hi (HRAS.out.chg hcs (show ¬ RR = d15 by omega) (show ¬ rB = d15 by omega) (show ¬ rg = d15 by omega)); have OW2 := Hi (owns_chg OW2.out hcs (show ¬ gi = d15 by omega)); have BL := Hi (BL.out.trans (hcs.below BL.out.size (fun k hk => by rw [hk]; omega))); clear hst hO hcs))
        clear hd15
        have q153 := (O15.out.cell 3).trans (show _ = some (.int .i64 0) from rfl)
        go_upto_region 22 with (fail)
        have HDL := Hi (show dd.length = 4 * (W * Hh) from HRAS.out.len)
        have HDB := Hi (show ∀ x ∈ dd, 0 ≤ x ∧ x < 256 from HRAS.out.buf.byt)
        have hRRw : w.heap.size ≤ RR := by omega
        have hrBw : w.heap.size ≤ rB := by omega
        have HIM := Hi (fun w0 (h0 : RasAt w0 RR ⟨L, W, Hh, rB, true, ⟨L, rg, dd, true⟩⟩) => (show Calls Tryz.prog 26 #[.pointer (some ⟨RR, 0, none⟩)] w0 (fun e w' => e = .returned (.tuple #[.agg (List.toArray [.int .i64 W, .int .i64 Hh, .slice (some ⟨rg, 0, none⟩) dd.length dd.length]), .bool true]) ∧ Obj1 w' rg (u8s dd).toArray 5 ∧ Chg (fun k => k = RR ∨ k = rB) w0 w') from
          (rimage_yes RR ⟨L, W, Hh, rB, true, ⟨L, rg, dd, true⟩⟩ w0 h0 rfl).mono fun e w' h => ⟨h.1, h.2.2.1, h.2.2.2⟩))
        have u0 := O15.out.lt
        go_wp2_with fail
        with_reducible refine (HIM.out _ HRAS.out).mono ?_
        rintro e w10 ⟨rfl, hog, hC⟩
        clear q153
        have O10 := Hi (hC.obj O10.out (show ¬ ((d9 + 1) = RR ∨ (d9 + 1) = rB) from by omega))
        have OW2 := Hi (owns_chg OW2.out hC (show ¬ (gi = RR ∨ gi = rB) from by omega))
        have O15 := Hi (hC.obj O15.out (show ¬ (d15 = RR ∨ d15 = rB) from by omega))
        have BL := Hi (BL.out.trans (hC.below BL.out.size (fun k hk => by rcases hk with hk | hk <;> (rw [hk]; assumption))))
        have ORG := Hi hog
        clear hog hC HRAS OWN O4 O9 O12
        obtain ⟨d16, hd16⟩ : ∃ d, w10.heap.size = d := ⟨_, rfl⟩
        have O16 := Hi (obj1_new w10 #[.int .i64 0, .int .i64 0, .slice none 0 0] 63)
        have u1 := O15.out.lt
        have u2 := ORG.out.lt
        have u3 := (owns_lt OW2.out).2
        have u4 := O10.out.lt
        rw [hd16] at O16 u1 u2 u3 u4
        have hal := (Chg.refl (fun _ => False) w10).alloc (.cells #[.int .i64 0, .int .i64 0, .slice none 0 0] 63)
        have O10 := Hi (hal.obj O10.out (fun h => h))
        have OW2 := Hi (owns_chg OW2.out hal (fun h => h))
        have O15 := Hi (hal.obj O15.out (fun h => h))
        have ORG := Hi (hal.obj ORG.out (fun h => h))
        have BL := Hi (BL.out.trans (hal.below BL.out.size (fun _ h => h.elim)))
        clear hal
        go_upto_region 23 with (first
          | (refine store_o rfl 63 3 _ _ rfl d16 [.int .i64 W, .int .i64 Hh, .slice (some ⟨rg, 0, none⟩) dd.length dd.length] rfl rfl (by kernel_rfl) (by kernel_rfl) (by kernel_rfl) O16.out (by first | rfl | simp) ?_; intro ws hst hO; have hcs := Stored.chgS (S := fun k => k = d16) hst (Chg.refl _ _) (Or.inl rfl); have O16 := Hi hO; have O10 := Hi (hcs.obj O10.out (show ¬ (d9 + 1) = d16 by omega)); have OW2 := Hi (owns_chg OW2.out hcs (show ¬ gi = d16 by omega)); have O15 := Hi (hcs.obj O15.out (show ¬ d15 = d16 by omega)); have ORG := Hi (hcs.obj ORG.out (show ¬ rg = d16 by omega)); have BL := Hi (BL.out.trans (hcs.below BL.out.size (fun k hk => by rw [hk]; omega))); clear hst hO hcs))
        clear hd16
        have HRO := Hi (owns_range OW2.out)
        have HGL := Hi (owns_lt OW2.out).2
        have HPLN := Hi (fun w0 (h0 : w0.rangeAt gi 0 (u8s dd)) (h1 : gi < w0.heap.size) => plain13_any W Hh gi (W * Hh) ci dd w0 h0 HDL.out (by have := HWH.out; omega) h1 HDB.out)
        have HSM := Hi (fun w0 gp cp (h0 : w0.rangeAt rg 0 (u8s dd)) (h1 : w0.rangeAt gp 0 (u8s dd)) (h2 : rg < w0.heap.size) (h3 : gp < w0.heap.size) => same07_any W Hh rg dd.length gp cp dd.length dd w0 h0 h1 rfl h2 h3)
        refine wp_region_noPanic ?_
        refine wp_region_held_drew (S := fun w' => Chg (fun _ => False) ws w') (by kernel_rfl) (Chg.refl _ _).drew (fun hHeld => ?_)
        refine wpAnyH_take (i := 0) (v := .bool true) rfl (by kernel_rfl) (by kernel_rfl) (by kernel_rfl) (fun _ _ _ h => h) (Or.inl ⟨by rfl, fun w hS => by (go_simp) <;> first | rfl | assumption | (intro hh; exfalso; omega) | (exact (i64_wraps _ (by omega) (by omega)).trans (by omega)) | omega⟩) hHeld ?_
        simp only [Act.put, zq1, zq2, zq3, zq4, zq5, zq6]
        refine wpAnyH_take (i := 1) (v := .bool true) rfl (by kernel_rfl) (by kernel_rfl) (by kernel_rfl) (fun _ _ _ h => h) (Or.inl ⟨by rfl, fun w hS => by (go_simp) <;> first | rfl | assumption | (intro hh; exfalso; omega) | (exact (i64_wraps _ (by omega) (by omega)).trans (by omega)) | omega⟩) hHeld ?_
        simp only [Act.put, zq1, zq2, zq3, zq4, zq5, zq6]
        refine wpAnyH_take (i := 2) (v := .agg (List.toArray ([.int .i64 0, .int .i64 0, .int .i64 0]))) rfl (by kernel_rfl) (by kernel_rfl) (by kernel_rfl) (fun _ _ _ h => h) (yieldsIf_load_mid (by rfl) 39 _ rfl (d9 + 1) (0) rfl ([.int .i64 0, .int .i64 0, .int .i64 0]) _ (fun w hS => range_chgU O10.out.range0 hS O10.out.lt (fun h => h)) Tryz.underlying39 rfl (by kernel_rfl)) hHeld ?_
        simp only [Act.put, zq1, zq2, zq3, zq4, zq5, zq6]
        refine wpAnyH_take (i := 3) (v := .agg #[.int .i64 0, .int .i64 0, .int .i64 0]) rfl (by kernel_rfl) (by kernel_rfl) (by kernel_rfl) (fun _ _ _ h => h) (Or.inl ⟨by rfl, fun w hS => by go_simp⟩) hHeld ?_
        simp only [Act.put, zq1, zq2, zq3, zq4, zq5, zq6]
        refine wpAnyH_take (i := 4) (v := .bool true) rfl (by kernel_rfl) (by kernel_rfl) (by kernel_rfl) (fun _ _ _ h => h) (Or.inl ⟨by rfl, fun w hS => by go_simp⟩) hHeld ?_
        simp only [Act.put, zq1, zq2, zq3, zq4, zq5, zq6]
        refine wpAnyH_take (i := 5) (v := .bool true) rfl (by kernel_rfl) (by kernel_rfl) (by kernel_rfl) (fun _ _ _ h => h) (Or.inl ⟨by rfl, fun w hS => by go_simp⟩) hHeld ?_
        simp only [Act.put, zq1, zq2, zq3, zq4, zq5, zq6]
        refine wpAnyH_take (i := 6) (v := .bool true) rfl (by kernel_rfl) (by kernel_rfl) (by kernel_rfl) (fun _ _ _ h => h) (Or.inl ⟨by rfl, fun w hS => by (go_simp) <;> first | rfl | assumption | (intro hh; exfalso; omega) | (exact (i64_wraps _ (by omega) (by omega)).trans (by omega)) | omega⟩) hHeld ?_
        simp only [Act.put, zq1, zq2, zq3, zq4, zq5, zq6]
        refine wpAnyH_take (i := 7) (v := .agg (List.toArray ([.int .i64 W, .int .i64 Hh, .slice (some ⟨rg, 0, none⟩) dd.length dd.length]))) rfl (by kernel_rfl) (by kernel_rfl) (by kernel_rfl) (fun _ _ _ h => h) (yieldsIf_load_mid (by rfl) 63 _ rfl (d16) (0) rfl ([.int .i64 W, .int .i64 Hh, .slice (some ⟨rg, 0, none⟩) dd.length dd.length]) _ (fun w hS => range_chgU O16.out.range0 hS O16.out.lt (fun h => h)) Tryz.underlying63 rfl (by kernel_rfl)) hHeld ?_
        simp only [Act.put, zq1, zq2, zq3, zq4, zq5, zq6]
        refine wpAnyH_take (i := 8) (v := .agg (List.toArray ([.int .i64 W, .int .i64 Hh, .slice (some ⟨gi, 0, none⟩) (W * Hh : Nat) ci, .int .i64 0, .int .i64 0]))) rfl (by kernel_rfl) (by kernel_rfl) (by kernel_rfl) (fun _ _ _ h => h) (yieldsIf_load_mid (by rfl) 59 _ rfl (d15) (0) rfl ([.int .i64 W, .int .i64 Hh, .slice (some ⟨gi, 0, none⟩) (W * Hh : Nat) ci, .int .i64 0, .int .i64 0]) _ (fun w hS => range_chgU O15.out.range0 hS O15.out.lt (fun h => h)) Tryz.underlying59 rfl (by kernel_rfl)) hHeld ?_
        simp only [Act.put, zq1, zq2, zq3, zq4, zq5, zq6]
        have hS := (Chg.refl (fun _ => False) ws).drew
        generalize World.drew _ = wk at hS ⊢
        refine wpAnyH_ready (rs := [9]) (by kernel_rfl) (by simp) ?_
        refine AllReadyH.cons (o := _) rfl (fun K' hK => ?_) AllReadyH.nil
        go_simp
        with_reducible refine (HPLN.out _ (range_chgU HRO.out hS HGL.out (fun h => h)) (Nat.lt_of_lt_of_le HGL.out hS.size)).mono ?_
        rintro e5 w5 ⟨gp, cp, rfl, hR5, hg5, hb5⟩
        go_wp2_with fail
        have hS2 := hS.trans (chg_of_below hb5 _)
        refine hK _ _ hS2 (fun hH2 => ?_)
        clear hK K'
        try simp only [Act.put, zq1, zq2, zq3, zq4, zq5, zq6]
        refine wpAnyH_ready (rs := [10]) (by kernel_rfl) (by simp) ?_
        refine AllReadyH.cons (o := _) rfl (fun K' hK => ?_) AllReadyH.nil
        go_simp
        with_reducible refine (HSM.out _ gp cp (range_chgU ORG.out.range0 hS2 ORG.out.lt (fun h => h)) hR5 (Nat.lt_of_lt_of_le ORG.out.lt hS2.size) hg5).mono ?_
        rintro e6 w6 ⟨rfl, hb6⟩
        go_wp2_with fail
        have hS3 := hS2.trans (chg_of_below hb6 _)
        refine hK _ _ hS3 (fun hH3 => ?_)
        clear hK K'
        try simp only [Act.put, zq1, zq2, zq3, zq4, zq5, zq6]
        refine wpAnyH_take (i := 11) (v := .bool true) rfl (by kernel_rfl) (by kernel_rfl) (by kernel_rfl) (fun _ _ _ h => h) (Or.inl ⟨by rfl, fun w hS => by go_simp⟩) hH3 ?_
        simp only [Act.put, zq1, zq2, zq3, zq4, zq5, zq6]
        refine wpAnyH_take (i := 12) (v := .bool true) rfl (by kernel_rfl) (by kernel_rfl) (by kernel_rfl) (fun _ _ _ h => h) (Or.inl ⟨by rfl, fun w hS => by go_simp⟩) hH3 ?_
        simp only [Act.put, zq1, zq2, zq3, zq4, zq5, zq6]
        refine wpAnyH_ready (rs := [13]) (by kernel_rfl) (by simp) ?_
        refine AllReadyH.cons (o := _) rfl (fun K' hK => ?_) AllReadyH.nil
        go_simp
        with_reducible refine (awake22 _).mono ?_
        rintro e7 w7 ⟨rfl, hb7⟩
        go_wp2_with fail
        have hS4 := hS3.trans (chg_of_below hb7 _)
        refine hK _ _ hS4 (fun hH4 => ?_)
        clear hK K'
        try simp only [Act.put, zq1, zq2, zq3, zq4, zq5, zq6]
        refine wpAnyH_take (i := 14) (v := .bool true) rfl (by kernel_rfl) (by kernel_rfl) (by kernel_rfl) (fun _ _ _ h => h) (Or.inl ⟨by rfl, fun w hS => by go_simp⟩) hH4 ?_
        simp only [Act.put, zq1, zq2, zq3, zq4, zq5, zq6]
        refine wpAnyH_take (i := 15) (v := .bool true) rfl (by kernel_rfl) (by kernel_rfl) (by kernel_rfl) (fun _ _ _ h => h) (Or.inl ⟨by rfl, fun w hS => by go_simp⟩) hH4 ?_
        simp only [Act.put, zq1, zq2, zq3, zq4, zq5, zq6]
        refine wpAnyH_done (by kernel_rfl) ?_ _
        refine NoPanic.normal ?_
        go_wp2_with fail
        go_ret
        exact ⟨rfl, BL.out.trans (hS4.below BL.out.size (fun _ h => h.elim))⟩
end Go.Proofs.YtlfbaggcfaenlaaGreat

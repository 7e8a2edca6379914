/- The law DibrleSteps, walked. -/
import Derived.Test.YtlfbaggcfaenlaaGreatK39
import Derived.Test.YtlfbaggcfaenlaaGreatK28
namespace Go.Proofs.YtlfbaggcfaenlaaGreat
open Go.RowKit
set_option linter.unusedVariables false
set_option linter.unusedSimpArgs false
theorem lhead8_20 (w : World) : Calls Tryz.prog 14 #[.int .i64 20, .int .i64 20, .int .i64 8] w fun e w' => e = .returned (.string (strOf (head8 20 20 ++ tabI 256))) ∧ Below w.heap.size w w' := lhead8_any 20 20 w (by decide) (by decide)
set_option maxRecDepth 100000 in
set_option maxHeartbeats 4000000 in
theorem steps22_long (s : ByteArray) (w : World) (h : 300 < s.size) (hm : s.size ≤ 140737488351232) : Calls Tryz.prog 3 #[.string s] w (Yes22 w) := by
  have HHD := Lib.hid (fun w0 => lhead8_20 w0)
  obtain ⟨hd, hhd⟩ : ∃ h, strOf (head8 20 20 ++ tabI 256) = h := ⟨_, rfl⟩
  have hz : hd.size = 1064 := by
    have h1 := fileS_size ByteArray.empty
    unfold fileS at h1
    rw [hhd, ByteArray.size_append] at h1
    have h2 : ByteArray.empty.size = 0 := rfl
    omega
  have hcc : hd.size + s.size ≤ 9223372036854775807 := by omega
  rw [hhd] at HHD
  clear hz hhd hm
  go_enter Tryz.func3, Tryz.ntmps3
  go_wp2_with (first
    | ((go_at_call 14; (with_reducible refine (HHD.out _).mono ?_); rintro e w1 ⟨rfl, hb1⟩); have B1 := Lib.hid hb1; clear hb1)
    | ((go_at_call 15; (with_reducible refine (awake22 _).mono ?_); rintro e w2 ⟨rfl, hb2⟩); have B2 := Lib.hid hb2; clear hb2))
  go_ret
  exact ⟨rfl, bthen B2.out B1.out B1.out.size⟩
theorem tab40 (X : Nat) (x : Sr) (l : Led) (w : World) (h : Pair w X x l) (hb : l.br = false) (hmb : l.bt + 1024 ≤ l.mb) (hst : l.st + 256 < l.mx) (hin : x.p + 1024 ≤ x.e) :
    Calls Tryz.prog 19 #[.pointer (some ⟨X, 0, none⟩), .agg (List.toArray [.int .i64 40, .int .i64 20, .int .i64 20, .bool false, .int .i64 8, .int .i64 1, .int .i64 256, .int .i64 0, .int .i64 0, .int .i64 0, .int .i64 0, .int .i64 0, .int .i64 0, .int .i64 0, .int .i64 0, .int .i64 0]), .int .i64 1] w (TabGood w X x l 4 256) :=
  (table_rich 40 20 20 false 8 1 256 0 0 0 0 0 0 0 0 0 X x l 1 4 w h (by decide) (by decide) (by decide) rfl hb (by omega) (by omega)).mono fun e w' hh => hh.1 (by omega)
def RasGood (w : World) (L : Nat) (l : Led) (a b : Nat) (e : Ending) (w' : World) : Prop := ∃ R B g, e = .returned (.tuple #[.pointer (some ⟨R, 0, none⟩), .int .i64 0]) ∧ LedAt w' L (l.take ((a * b * 4 : Nat) : Int)).1 ∧ RasAt w' R ⟨L, a, b, B, true, ⟨L, g, zeros8 (a * b * 4), true⟩⟩ ∧ w.heap.size ≤ R ∧ w.heap.size ≤ B ∧ w.heap.size ≤ g ∧ Chg (· = L) w w'
/-- A raster, where the ledger is rich. -/
theorem ras_rich (L : Nat) (l : Led) (a b : Nat) (w : World) (h : LedAt w L l) (hb : l.br = false) (ha1 : 1 ≤ a) (ha2 : (a : Int) ≤ l.mw) (hb1 : 1 ≤ b) (hb2 : (b : Int) ≤ l.mh) (hm : l.mw ≤ 16384 ∧ l.mh ≤ 16384) (hmb : l.bt + 4 * (a * b : Nat) ≤ l.mb) :
    Calls Tryz.prog 20 #[.pointer (some ⟨L, 0, none⟩), .int .i64 a, .int .i64 b] w (RasGood w L l a b) := by
  refine (rasnew_any L l a b w h).mono ?_
  intro e w' hp
  unfold RNewPost at hp
  have hs : l.sides a b = (l, true) := by
    unfold Led.sides; rw [if_neg (by rw [hb]; decide), if_neg (by omega), if_neg (by omega)]
  obtain ⟨hp, hc⟩ := hp
  rw [if_neg (fun hh => hh ⟨⟨by omega, by omega⟩, by omega, by omega⟩), hs, if_neg (by intro hh; cases hh), Int.toNat_natCast, Int.toNat_natCast] at hp
  have htk : (l.take ((a * b * 4 : Nat) : Int)).2 = true := by
    unfold Led.take; rw [if_neg (by rw [hb]; decide), if_neg (by omega)]
  rw [if_neg (by rw [htk]; decide)] at hp
  obtain ⟨R, B, g, h1, h2, h3, h4, h5, h6⟩ := hp
  exact ⟨R, B, g, h1, h2, h3, h4, h5, h6, hc⟩
theorem ras20 (L : Nat) (l : Led) (w : World) (h : LedAt w L l) (hb : l.br = false) (h1 : l.mw = 40) (h2 : l.mh = 40) (hmb : l.bt + 1600 ≤ l.mb) : Calls Tryz.prog 20 #[.pointer (some ⟨L, 0, none⟩), .int .i64 20, .int .i64 20] w (RasGood w L l 20 20) :=
  ras_rich L l 20 20 w h hb (by decide) (by rw [h1]; decide) (by decide) (by rw [h2]; decide) (by rw [h1, h2]; decide) hmb
theorem hread_s (s : ByteArray) (hs : s.size ≤ 300) (L X : Nat) : ∃ l1 : Led, (l1.br = false ∧ l1.bt = 0 ∧ l1.mb = 20000 ∧ l1.mw = 40 ∧ l1.mh = 40 ∧ l1.mx = 1000000 ∧ 0 ≤ l1.st ∧ l1.st ≤ 3) ∧ ∀ w0, Pair w0 X ⟨L, fileS s, 0, (fileS s).size, 0⟩ (Led.new 40 40 20000 1000000) →
    Calls Tryz.prog 18 #[.pointer (some ⟨X, 0, none⟩), .int .i64 1] w0 fun e w' => e = .returned (.tuple #[.agg (List.toArray [.int .i64 40, .int .i64 20, .int .i64 20, .bool false, .int .i64 8, .int .i64 1, .int .i64 256, .int .i64 0, .int .i64 0, .int .i64 0, .int .i64 0, .int .i64 0, .int .i64 0, .int .i64 0, .int .i64 0, .int .i64 0]), .agg (List.toArray [.int .i64 0, .int .i64 0, .int .i64 0])]) ∧ Pair w' X ⟨L, fileS s, 0, (fileS s).size, 40⟩ l1 ∧ Chg (two X ⟨L, fileS s, 0, (fileS s).size, 0⟩) w0 w' := by
  obtain ⟨k, hk, hrd⟩ := hsteps s hs L
  refine ⟨{ Led.new 40 40 20000 1000000 with st := k }, ⟨rfl, rfl, rfl, rfl, rfl, rfl, by show (0 : Int) ≤ k; omega, by show (k : Int) ≤ 3; omega⟩, fun w0 h0 => (hread_any X _ _ 1 w0 h0).mono fun e w' hp => ?_⟩
  unfold HReadPost at hp
  rw [hrd] at hp
  exact hp
set_option maxRecDepth 100000 in
set_option maxHeartbeats 8000000 in
theorem steps22_main (s : ByteArray) (w : World) (hs : s.size ≤ 300) : Calls Tryz.prog 3 #[.string s] w (Yes22 w) := by
  have HHD := Lib.hid (fun w0 => lhead8_20 w0)
  obtain ⟨hd, hhd⟩ : ∃ h, strOf (head8 20 20 ++ tabI 256) = h := ⟨_, rfl⟩
  obtain ⟨F, hF⟩ : ∃ F, hd ++ s = F := ⟨_, rfl⟩
  have hFS : fileS s = F := by rw [← hF, ← hhd]; rfl
  have hz := fileS_size s
  have hst := hread_s s hs
  rw [hFS] at hz hst
  rw [hhd] at HHD
  have HST := Lib.hid hst
  have HZ := Lib.hid hz
  have hcc : hd.size + s.size ≤ 20000 := by rw [← ByteArray.size_append, hF]; omega
  have HLN := Lib.hid (fun w0 => lnew_any 40 40 20000 1000000 w0 (by decide) (by decide))
  clear hhd hFS hz hst
  go_enter Tryz.func3, Tryz.ntmps3
  go_wp2_with fail
  refine (HHD.out _).mono ?_
  rintro e w1 ⟨rfl, hb1⟩
  have BL := Lib.hid hb1
  have z1 := hb1.size
  clear hb1
  go_wp2_with fail
  clear hF
  refine (HLN.out _).mono ?_
  rintro e w2 ⟨L, rfl, hL, hLs, hC⟩
  have BL := Lib.hid (BL.out.trans (hC.below BL.out.size (fun _ h => h.elim)))
  have lL : w.heap.size ≤ L := by omega
  have HL := Lib.hid hL
  have z2 := BL.out.size
  clear z1 hLs hC hL
  go_wp2_with fail
  refine (snew_any L F _ (by have := HZ.out; omega) HL.out.lt).mono ?_
  rintro e w3 ⟨X, rfl, hX, hXs, hC⟩
  have HX := Lib.hid hX
  have HL := Lib.hid (HL.out.chg hC (fun h => h))
  have BL := Lib.hid (BL.out.trans (hC.below BL.out.size (fun _ h => h.elim)))
  have lX : w.heap.size ≤ X := by omega
  have PX := Lib.hid (show Pair w3 X ⟨L, F, 0, F.size, 0⟩ (Led.new 40 40 20000 1000000) from ⟨HX.out, HL.out⟩)
  clear z2 hX hXs hC HX HL
  obtain ⟨l1, hl1, hrd⟩ := HST.out L X
  have HRD := Lib.hid hrd
  have HL1 := Lib.hid hl1
  clear hrd hl1
  go_wp2_with fail
  with_reducible refine (HRD.out _ PX.out).mono ?_
  rintro e w4 ⟨rfl, hP, hC⟩
  have BL := Lib.hid (BL.out.trans (hC.below BL.out.size (fun k hk => by rcases hk with hk | hk <;> (rw [hk]; assumption))))
  have PX := Lib.hid hP
  clear hP hC
  obtain ⟨d7, hd7⟩ : ∃ b, w4.heap.size = b := ⟨_, rfl⟩
  have l7 : w.heap.size ≤ d7 := by rw [← hd7]; exact BL.out.size
  have lX7 := PX.out.src.lt
  have lL7 : L < w4.heap.size := PX.out.led.lt
  rw [hd7] at lX7 lL7
  have O7 := Lib.hid ((obj1_new w4 #[.int .i64 0, .int .i64 0, .int .i64 0, .bool false, .int .i64 0, .int .i64 0, .int .i64 0, .int .i64 0, .int .i64 0, .int .i64 0, .int .i64 0, .int .i64 0, .int .i64 0, .int .i64 0, .int .i64 0, .int .i64 0] 37).alloc (.cells #[.int .i64 0, .int .i64 0, .int .i64 0] 39))
  have O8 := Lib.hid (obj1_new (w4.alloc (.cells #[.int .i64 0, .int .i64 0, .int .i64 0, .bool false, .int .i64 0, .int .i64 0, .int .i64 0, .int .i64 0, .int .i64 0, .int .i64 0, .int .i64 0, .int .i64 0, .int .i64 0, .int .i64 0, .int .i64 0, .int .i64 0] 37)) #[.int .i64 0, .int .i64 0, .int .i64 0] 39)
  rw [show (w4.alloc (.cells #[.int .i64 0, .int .i64 0, .int .i64 0, .bool false, .int .i64 0, .int .i64 0, .int .i64 0, .int .i64 0, .int .i64 0, .int .i64 0, .int .i64 0, .int .i64 0, .int .i64 0, .int .i64 0, .int .i64 0, .int .i64 0] 37)).heap.size = d7 + 1 by rw [← hd7]; simp] at O8
  rw [hd7] at O7
  have PX := Lib.hid ((PX.out.alloc (.cells #[.int .i64 0, .int .i64 0, .int .i64 0, .bool false, .int .i64 0, .int .i64 0, .int .i64 0, .int .i64 0, .int .i64 0, .int .i64 0, .int .i64 0, .int .i64 0, .int .i64 0, .int .i64 0, .int .i64 0, .int .i64 0] 37)).alloc (.cells #[.int .i64 0, .int .i64 0, .int .i64 0] 39))
  have BL := Lib.hid ((BL.out.alloc BL.out.size (.cells #[.int .i64 0, .int .i64 0, .int .i64 0, .bool false, .int .i64 0, .int .i64 0, .int .i64 0, .int .i64 0, .int .i64 0, .int .i64 0, .int .i64 0, .int .i64 0, .int .i64 0, .int .i64 0, .int .i64 0, .int .i64 0] 37)).alloc (by simp; have := BL.out.size; omega) (.cells #[.int .i64 0, .int .i64 0, .int .i64 0] 39))
  go_upto_region 9 with (first
    | (refine store_o rfl 37 16 _ _ rfl d7 [.int .i64 40, .int .i64 20, .int .i64 20, .bool false, .int .i64 8, .int .i64 1, .int .i64 256, .int .i64 0, .int .i64 0, .int .i64 0, .int .i64 0, .int .i64 0, .int .i64 0, .int .i64 0, .int .i64 0, .int .i64 0] rfl rfl (by kernel_rfl) (by kernel_rfl) (by kernel_rfl) O7.out (by first | rfl | simp) ?_; intro ws hst hO; have O7 := Lib.hid hO; have O8 := Lib.hid (hst.oth O8.out (by omega)); have PX := Lib.hid (PX.out.into hst (by omega) (by show L ≠ _; omega)); have BL := Lib.hid (hst.below BL.out (by omega)); clear hst hO)
    | (refine store_o rfl 39 3 _ _ rfl (d7 + 1) [.int .i64 0, .int .i64 0, .int .i64 0] rfl rfl (by kernel_rfl) (by kernel_rfl) (by kernel_rfl) O8.out (by first | rfl | simp) ?_; intro ws hst hO; have O8 := Lib.hid hO; have O7 := Lib.hid (hst.oth O7.out (by omega)); have PX := Lib.hid (PX.out.into hst (by omega) (by show L ≠ _; omega)); have BL := Lib.hid (hst.below BL.out (by omega)); clear hst hO))
  clear hd7
  have HTB := Lib.hid (fun w0 (h0 : Pair w0 X ⟨L, F, 0, F.size, 40⟩ l1) => tab40 X ⟨L, F, 0, F.size, 40⟩ l1 w0 h0 HL1.out.1 (by rw [HL1.out.2.1, HL1.out.2.2.1]; decide) (by have := HL1.out.2.2.2.2.2; omega) (by show 40 + 1024 ≤ F.size; have := HZ.out; omega))
  go_wp2_with (first
    | (refine load_u (by kernel_rfl) 37 16 _ rfl d7 [.int .i64 40, .int .i64 20, .int .i64 20, .bool false, .int .i64 8, .int .i64 1, .int .i64 256, .int .i64 0, .int .i64 0, .int .i64 0, .int .i64 0, .int .i64 0, .int .i64 0, .int .i64 0, .int .i64 0, .int .i64 0] rfl rfl O7.out Tryz.underlying37 rfl (by kernel_rfl) ?_; intro _))
  have l8 := O8.out.lt
  with_reducible refine (HTB.out _ PX.out).mono ?_
  rintro e w5 ⟨P, p, rfl, hpal, hP, hP1, hP2, hP3, htab, hC⟩
  obtain ⟨l2, hl2⟩ : ∃ l2 : Led, ({ (l1.take (4 * ((256 : Nat) : Int))).1 with st := l1.st + ((256 : Nat) : Int) } : Led) = l2 := ⟨_, rfl⟩
  have HL2 := Lib.hid (show l2.br = false ∧ l2.bt = 1024 ∧ l2.mb = 20000 ∧ l2.mw = 40 ∧ l2.mh = 40 ∧ l2.mx = 1000000 ∧ 0 ≤ l2.st ∧ l2.st ≤ 259 by
    obtain ⟨a1, a2, a3, a4, a5, a6, a7, a8⟩ := HL1.out
    have htk : l1.take (4 * ((256 : Nat) : Int)) = ({ l1 with bt := l1.bt + 4 * ((256 : Nat) : Int), pk := if l1.bt + 4 * ((256 : Nat) : Int) ≤ l1.pk then l1.pk else l1.bt + 4 * ((256 : Nat) : Int) }, true) := by
      unfold Led.take; rw [if_neg (by rw [a1]; decide), if_neg (by rw [a2, a3]; decide)]
    rw [← hl2, htk]
    exact ⟨a1, by show l1.bt + 4 * ((256 : Nat) : Int) = 1024; rw [a2]; rfl, a3, a4, a5, a6, by show 0 ≤ l1.st + ((256 : Nat) : Int); omega, by show l1.st + ((256 : Nat) : Int) ≤ 259; omega⟩)
  have hP : Pair w5 X ⟨L, F, 0, F.size, 1064⟩ l2 := by rw [← hl2]; exact hP
  have BL := Lib.hid (BL.out.trans (hC.below BL.out.size (fun k hk => by rcases hk with hk | hk <;> (rw [hk]; assumption))))
  have O7 := Lib.hid (hC.obj O7.out (fun hk => by rcases hk with hk | hk; omega; have hk : d7 = L := hk; omega))
  have O8 := Lib.hid (hC.obj O8.out (fun hk => by rcases hk with hk | hk; omega; have hk : d7 + 1 = L := hk; omega))
  have PX := Lib.hid hP
  have HPAL := Lib.hid hpal
  have HTAB := Lib.hid htab
  obtain ⟨pB, hpB⟩ : ∃ v, p.B = v := ⟨_, rfl⟩
  obtain ⟨pg, hpg⟩ : ∃ v, p.b.g = v := ⟨_, rfl⟩
  have HpB := Lib.hid hpB
  have Hpg := Lib.hid hpg
  rw [hpB] at hP2
  rw [hpg] at hP3
  have m1 : d7 + 1 < P := by omega
  have m2 : d7 + 1 < pB := by omega
  have m3 : d7 + 1 < pg := by omega
  have n1 := hpal.lt
  have n2 := hpal.buf.lt
  have n3 := hpal.buf.glt hpal.opn
  rw [hpB] at n2
  rw [hpg] at n3
  clear hP hpal htab hP1 hP2 hP3 hl2 hpB hpg hC l8
  obtain ⟨d10, hd10⟩ : ∃ b, w5.heap.size = b := ⟨_, rfl⟩
  have l10 := O8.out.lt
  rw [hd10] at l10 n1 n2 n3
  have O10 := Lib.hid (obj1_new w5 #[.int .i64 0, .int .i64 0, .int .i64 0] 39)
  rw [hd10] at O10
  have O7 := Lib.hid (O7.out.alloc (.cells #[.int .i64 0, .int .i64 0, .int .i64 0] 39))
  have O8 := Lib.hid (O8.out.alloc (.cells #[.int .i64 0, .int .i64 0, .int .i64 0] 39))
  have PX := Lib.hid (PX.out.alloc (.cells #[.int .i64 0, .int .i64 0, .int .i64 0] 39))
  have HPAL := Lib.hid (HPAL.out.chg ((Chg.refl (fun _ => False) _).alloc (.cells #[.int .i64 0, .int .i64 0, .int .i64 0] 39)) (fun h => h) (fun h => h) (fun h => h))
  have BL := Lib.hid (BL.out.alloc BL.out.size (.cells #[.int .i64 0, .int .i64 0, .int .i64 0] 39))
  go_upto_region 10 with (first
    | (refine store_o rfl 39 3 _ _ rfl d10 [.int .i64 0, .int .i64 0, .int .i64 0] rfl rfl (by kernel_rfl) (by kernel_rfl) (by kernel_rfl) O10.out (by first | rfl | simp) ?_; intro ws hst hO; have O10 := Lib.hid hO; have O7 := Lib.hid (hst.oth O7.out (by omega)); have O8 := Lib.hid (hst.oth O8.out (by omega)); have PX := Lib.hid (PX.out.into hst (by omega) (by show L ≠ _; omega)); have BL := Lib.hid (hst.below BL.out (by omega)); have hcs := Stored.chgS (S := fun k => k = d10) hst (Chg.refl _ _) (Or.inl rfl); have HPAL := Lib.hid (HPAL.out.chg hcs (show ¬ P = d10 by omega) (show ¬ p.B = d10 by rw [HpB.out]; omega) (show ¬ p.b.g = d10 by rw [Hpg.out]; omega)); clear hst hO hcs))
  clear hd10
  have HRN := Lib.hid (fun w0 (h0 : LedAt w0 L l2) => ras20 L l2 w0 h0 HL2.out.1 HL2.out.2.2.2.1 HL2.out.2.2.2.2.1 (by rw [HL2.out.2.1, HL2.out.2.2.1]; decide))
  have l11 := O10.out.lt
  go_wp2_with fail
  with_reducible refine (HRN.out _ PX.out.led).mono ?_
  rintro e w6 ⟨RR, rB, rg, rfl, hL, hras, hR1, hR2, hR3, hC⟩
  obtain ⟨l3, hl3⟩ : ∃ l3 : Led, (l2.take ((20 * 20 * 4 : Nat) : Int)).1 = l3 := ⟨_, rfl⟩
  rw [hl3] at hL
  have HL3 := Lib.hid (show l3.br = false ∧ l3.mx = 1000000 ∧ 0 ≤ l3.st ∧ l3.st ≤ 259 by
    obtain ⟨a1, a2, a3, a4, a5, a6, a7, a8⟩ := HL2.out
    have htk : (l2.take ((20 * 20 * 4 : Nat) : Int)).1 = { l2 with bt := l2.bt + ((20 * 20 * 4 : Nat) : Int), pk := if l2.bt + ((20 * 20 * 4 : Nat) : Int) ≤ l2.pk then l2.pk else l2.bt + ((20 * 20 * 4 : Nat) : Int) } := by
      unfold Led.take; rw [if_neg (by rw [a1]; decide), if_neg (by rw [a2, a3]; decide)]
    rw [← hl3, htk]
    exact ⟨a1, a6, a7, a8⟩)
  have PX := Lib.hid (show Pair w6 X ⟨L, F, 0, F.size, 1064⟩ l3 from ⟨PX.out.src.chg hC (show ¬ X = L from PX.out.src.ne), hL⟩)
  have BL := Lib.hid (BL.out.trans (hC.below BL.out.size (fun k hk => by rw [hk]; assumption)))
  have O7 := Lib.hid (hC.obj O7.out (show ¬ d7 = L by omega))
  have O8 := Lib.hid (hC.obj O8.out (show ¬ d7 + 1 = L by omega))
  have O10 := Lib.hid (hC.obj O10.out (show ¬ d10 = L by omega))
  have HPAL := Lib.hid (HPAL.out.chg hC (show ¬ P = L by omega) (show ¬ p.B = L by rw [HpB.out]; omega) (show ¬ p.b.g = L by rw [Hpg.out]; omega))
  have HRAS := Lib.hid hras
  have r1 : d10 < RR := by omega
  have r2 : d10 < rB := by omega
  have r3 : d10 < rg := by omega
  have HAP := Lib.hid (show RleApart X P RR ⟨L, F, 0, F.size, 1064⟩ p ⟨L, 20, 20, rB, true, ⟨L, rg, zeros8 (20 * 20 * 4), true⟩⟩ from
    ⟨rfl, by show X ≠ rg; omega, by show P ≠ rg; omega, by show p.B ≠ rg; rw [HpB.out]; omega, by show p.b.g ≠ rg; rw [Hpg.out]; omega, by show P ≠ L; omega, by show p.B ≠ L; rw [HpB.out]; omega, by show p.b.g ≠ L; rw [Hpg.out]; omega, by omega, by rw [HpB.out]; omega, by rw [Hpg.out]; omega, by omega, by show rB ≠ X; omega⟩)
  clear hL hras hR1 hR2 hR3 hC hl3
  have q8 := (O8.out.cell 0).trans (show _ = some (.int .i64 0) from rfl)
  have q10 := (O10.out.cell 0).trans (show _ = some (.int .i64 0) from rfl)
  have HSTP := Lib.hid (fun (l : Led) w0 (h0 : LedAt w0 L l) => steps_any L l w0 h0)
  go_upto_region 13 with (first
    | ((with_reducible refine skip_g rfl ?_ ?_); rfl; intro _))
  clear q8 q10
  obtain ⟨ST, hST⟩ : ∃ v, l3.st = v := ⟨_, rfl⟩
  have HL3S := Lib.hid hST
  have HS3 := Lib.hid (fun w0 (h0 : LedAt w0 L l3) => (HSTP.out l3 w0 h0).mono (R' := fun e w' => e = .returned (.int .i64 ST) ∧ w0 = w') fun e w' hh => by rw [hST] at hh; exact hh)
  have HRL := Lib.hid (fun w0 (h0 : Pair w0 X ⟨L, F, 0, F.size, 1064⟩ l3) (h1 : PalAt w0 P p) (h2 : RasAt w0 RR ⟨L, 20, 20, rB, true, ⟨L, rg, zeros8 (20 * 20 * 4), true⟩⟩) =>
    (show Calls Tryz.prog 22 #[.pointer (some ⟨X, 0, none⟩), .agg (List.toArray [.int .i64 40, .int .i64 20, .int .i64 20, .bool false, .int .i64 8, .int .i64 1, .int .i64 256, .int .i64 0, .int .i64 0, .int .i64 0, .int .i64 0, .int .i64 0, .int .i64 0, .int .i64 0, .int .i64 0, .int .i64 0]), .pointer (some ⟨P, 0, none⟩), .pointer (some ⟨RR, 0, none⟩), .int .i64 1] w0 (RleRich w0 X RR ⟨L, F, 0, F.size, 1064⟩ l3 p ⟨L, 20, 20, rB, true, ⟨L, rg, zeros8 (20 * 20 * 4), true⟩⟩ 20 20 256 8 1 (colsL (F.extract 40 F.size) 4 256) (F.size + 1)) from
      rle_rich X P RR 40 20 20 false 8 1 256 0 0 0 0 0 0 0 0 0 1 ⟨L, F, 0, F.size, 1064⟩ l3 p ⟨L, 20, 20, rB, true, ⟨L, rg, zeros8 (20 * 20 * 4), true⟩⟩ (F.size + 1) 4 40 256 w0 h0 h1 h2 HAP.out rfl rfl rfl (Or.inl rfl) (by have := HZ.out; show F.size < _; omega) (by show F.size < 1064 + (F.size + 1); omega)
        (Or.inr rfl) HTAB.out (by have := HZ.out; show 40 + 4 * 256 ≤ F.size; omega) HL3.out.1 (by have := HL3.out; have := HZ.out; show l3.st + (F.size : Int) + ((20 : Nat) : Int) * ((20 : Nat) : Int) + 1 < l3.mx; omega)))
  clear hST
  go_wp2_with fail
  with_reducible refine (HS3.out _ PX.out.led).mono ?_
  rintro e w7 ⟨rfl, rfl⟩
  go_upto_region 14 with (fail)
  go_wp2_with (first
    | (refine load_u (by kernel_rfl) 37 16 _ rfl d7 [.int .i64 40, .int .i64 20, .int .i64 20, .bool false, .int .i64 8, .int .i64 1, .int .i64 256, .int .i64 0, .int .i64 0, .int .i64 0, .int .i64 0, .int .i64 0, .int .i64 0, .int .i64 0, .int .i64 0, .int .i64 0] rfl rfl O7.out Tryz.underlying37 rfl (by kernel_rfl) ?_; intro _))
  with_reducible refine (HRL.out _ PX.out HPAL.out HRAS.out).mono ?_
  rintro e w8 ⟨⟨y, m, dd, k, t, rfl, hp, hyL, hye, -, hm, hk, -⟩, hC⟩
  have BL := Lib.hid (BL.out.trans (hC.below BL.out.size (fun k hk => by
    rcases hk with hk | hk | hk
    · rw [hk]; assumption
    · have hk : k = L := hk
      rw [hk]; assumption
    · have hk : k = rg := hk
      rw [hk]; omega)))
  have HLm := Lib.hid (show LedAt w8 L m by have := hp.led; rw [show y.L = L from hyL] at this; exact this)
  have hkb : (k : Int) ≤ 2 * (s.size : Int) + 402 := by
    have h1 : 1064 + k ≤ y.p + 20 * 20 + 1 := hk
    have h2 : y.p ≤ F.size := hye
    have := HZ.out
    omega
  have hms : m.st = ST + k := by rw [hm]; show l3.st + (k : Int) = _; rw [HL3S.out]
  have HS4 := Lib.hid (fun w0 (h0 : LedAt w0 L m) => (HSTP.out m w0 h0).mono (R' := fun e w' => e = .returned (.int .i64 (ST + k)) ∧ w0 = w') fun e w' hh => by rw [hms] at hh; exact hh)
  have hSTb : 0 ≤ ST ∧ ST ≤ 259 := by rw [← HL3S.out]; exact ⟨HL3.out.2.2.1, HL3.out.2.2.2⟩
  obtain ⟨hST0, hST1⟩ := hSTb
  clear hp hyL hye hm hk hC hms
  go_upto_region 15 with (fail)
  go_wp2_with (first
    | ((with_reducible refine skip_g rfl ?_ ?_); rfl; intro _)
    | ((go_at_call 21; (with_reducible refine (HS4.out _ HLm.out).mono ?_); rintro e w9 ⟨rfl, rfl⟩))
    | ((go_at_call 15; (with_reducible refine (awake22 _).mono ?_); rintro e w10 ⟨rfl, hb⟩); have BL := Lib.hid (bthen hb BL.out BL.out.size); clear hb))
  go_ret
  exact ⟨rfl, BL.out⟩
theorem steps22_law (s : ByteArray) (hs : s.size ≤ 140737488351232) (w : World) : Calls Tryz.prog 3 #[.string s] w (Yes22 w) := by
  by_cases h : s.size ≤ 300
  · exact steps22_main s w h
  · exact steps22_long s w (by omega) hs
end Go.Proofs.YtlfbaggcfaenlaaGreat


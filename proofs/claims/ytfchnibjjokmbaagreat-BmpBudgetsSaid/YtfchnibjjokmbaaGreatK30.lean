/- Parts. -/
import Derived.Test.YtfchnibjjokmbaaGreatK29
set_option linter.all false
set_option maxRecDepth 100000
set_option maxHeartbeats 16000000
open Go.Value renaming int → J, pointer → Y
open Go.IntKind renaming i64 → I, u8 → U
namespace Go.Proofs.YtfchnibjjokmbaaGreat
open Go.RowKit
theorem wide_any (w : World) : Calls Tryz.prog 14 #[] w fun e w' => e = .returned (.agg #[J I 16384, J I 16384, J I 262144, J I 1048576]) ∧ Below w.heap.size w w' := by
 go_enter Tryz.func14, Tryz.ntmps14
 go_wp2
 refine bodyPost_ret (v := .agg #[J I 16384, J I 16384, J I 262144, J I 1048576]) (by simp [results, Tryz.results14, go_sem]) rfl ⟨rfl, ?_⟩
 exact (Below.refl _ _).alloc (Nat.le_refl _) _
theorem results_cct {P : Program} {fn : Func} {p q r : Tmp} {ty ty2 : TypeId} (h : fn.results = #[.cell p ty, .cell q ty2, .tmp r]) (tmps : Array Value) (w : World) (b b2 : Nat) (cs cs2 : List Value) (v : Value) (d d2 : TypeDesc)
 (hp : tmps.getD p undef = Y (some ⟨b, 0, none⟩)) (R : w.rangeAt b 0 cs) (hu : P.underlying ty = some d) (hd : d.isRow = true) (hi : (P.info? ty).map (·.size) = some cs.length)
 (hq : tmps.getD q undef = Y (some ⟨b2, 0, none⟩)) (R2 : w.rangeAt b2 0 cs2) (hu2 : P.underlying ty2 = some d2) (hd2 : d2.isRow = true) (hi2 : (P.info? ty2).map (·.size) = some cs2.length) (hr : tmps.getD r undef = v) :
 (results fn tmps).run P w = .ok (.tuple #[.agg cs.toArray, .agg cs2.toArray, v]) w := by
 have hp' : tmps[p]?.getD undef = Y (some ⟨b, 0, none⟩) := by simpa using hp
 have hq' : tmps[q]?.getD undef = Y (some ⟨b2, 0, none⟩) := by simpa using hq
 have hr' : tmps[r]?.getD undef = v := by simpa using hr
 simp [results, h, hp', hq', hr', asAddr, run_loadVar_mid w b 0 ty cs d R hu hd hi, run_loadVar_mid w b2 0 ty2 cs2 d2 R2 hu2 hd2 hi2]
def RunEnd (Rel : Nat → Sr → Led → Option (Int × Int × List Int) → Int × Int → Prop) (w : World) (e : Ending) (w' : World) : Prop :=
 ∃ L y m o t, LedAt w' L m ∧ w.heap.size ≤ L ∧ Below w.heap.size w w' ∧ Rel L y m o t ∧ (match o with
  | none => e = .returned (.tuple #[.agg #[J I 0, J I 0, .slice none 0 0], .agg (fc 1 t).toArray, Y (some ⟨L, 0, none⟩)])
  | some (W, H, d) => ∃ g, e = .returned (.tuple #[.agg #[J I W.toNat, J I H.toNat, .slice (some ⟨g, 0, none⟩) d.length d.length], .agg (fc 1 (0, 0)).toArray, Y (some ⟨L, 0, none⟩)]) ∧ Obj1 w' g (aY d).toArray 5 ∧ w.heap.size ≤ g)
theorem run_any (s : ByteArray) (mw mh mb mk : Int) (Rel : Nat → Sr → Led → Option (Int × Int × List Int) → Int × Int → Prop) (w : World) (hs : s.size ≤ 9223372036854775807) (h1 : mb ≤ 9223372036854775807) (h2 : mk ≤ 9223372036854775807)
 (hD : ∀ X L w0, Pair w0 X ⟨L, s, 0, s.size, 0⟩ (Led.new mw mh mb mk) → Calls Tryz.prog 8 #[Y (some ⟨X, 0, none⟩)] w0 (DecEnd X L (Rel L) w0)) :
 Calls Tryz.prog 7 #[.string s, .agg #[J I mw, J I mh, J I mb, J I mk], .func (.func 8) #[] #[]] w (RunEnd Rel w) := by
 have HD := Hi hD
 have HLN := Hi (fun w0 => lnew_any mw mh mb mk w0 h1 h2)
 have HSN := Hi (fun L w0 (h0 : LedAt w0 L (Led.new mw mh mb mk)) => snew_c7 L s _ w0 hs h0)
 have OB := Hi (((aA w #[J I mw, J I mh, J I mb, J I mk] 23).alloc (.cells #[J I 0, J I 0, .slice none 0 0] 29)).alloc (.cells #[J I 0, J I 0, J I 0] 31))
 have OI := Hi ((aA (w.alloc (.cells #[J I mw, J I mh, J I mb, J I mk] 23)) #[J I 0, J I 0, .slice none 0 0] 29).alloc (.cells #[J I 0, J I 0, J I 0] 31))
 have OF := Hi (aA ((w.alloc (.cells #[J I mw, J I mh, J I mb, J I mk] 23)).alloc (.cells #[J I 0, J I 0, .slice none 0 0] 29)) #[J I 0, J I 0, J I 0] 31)
 have CH := Hi ((((Chg.refl (fun _ => False) w).alloc (.cells #[J I mw, J I mh, J I mb, J I mk] 23)).alloc (.cells #[J I 0, J I 0, .slice none 0 0] 29)).alloc (.cells #[J I 0, J I 0, J I 0] 31))
 obtain ⟨d, hd⟩ : ∃ d, w.heap.size = d := ⟨_, rfl⟩
 have HDe := Hi hd
 rw [show (w.alloc (.cells #[J I mw, J I mh, J I mb, J I mk] 23)).heap.size = d + 1 by rw [← hd]; simp] at OI
 rw [show ((w.alloc (.cells #[J I mw, J I mh, J I mb, J I mk] 23)).alloc (.cells #[J I 0, J I 0, .slice none 0 0] 29)).heap.size = d + 2 by rw [← hd]; simp] at OF
 rw [hd] at OB
 clear hD hs h1 h2
 go_enter Tryz.func7, Tryz.ntmps7
 go_upto_region 1 with (fail)
 clear hd
 generalize World.alloc (World.alloc (World.alloc _ _) _) _ = wr at OB OI OF CH ⊢
 go_wp2_with (refine aL (by kernel_rfl) 23 4 _ rfl d [J I mw, J I mh, J I mb, J I mk] rfl rfl OB.out Tryz.underlying23 rfl (by kernel_rfl) ?_; intro _)
 with_reducible refine (HLN.out _).mono ?_
 rintro e w1 ⟨L, rfl, hl1, hL1, hc1⟩
 have lo1 := OF.out.lt
 have OI := Hi (hc1.obj OI.out (fun h => h))
 have OF := Hi (hc1.obj OF.out (fun h => h))
 have CH := Hi (CH.out.trans hc1)
 have HLB := Hi (show d + 2 < L by omega)
 have LA := Hi hl1
 clear hc1 hl1 hL1 lo1 OB
 go_wp2_with (fail)
 with_reducible refine (HSN.out L _ LA.out).mono ?_
 rintro e w2 ⟨X, rfl, hp2, hX2, hb2⟩
 have lo1 := OF.out.lt
 have OI := Hi (OI.out.below hb2 OI.out.lt)
 have OF := Hi (OF.out.below hb2 OF.out.lt)
 have CH := Hi (CH.out.trans (aB hb2 _))
 have HXB := Hi (show d + 2 < X by omega)
 have PX := Hi hp2
 clear hb2 hp2 hX2 lo1 LA
 go_upto_region 5 with (fail)
 go_wp2_with (fail)
 have HW2 := Hi (show d + 2 < w2.heap.size ∧ L < w2.heap.size from ⟨OF.out.lt, PX.out.led.lt⟩)
 with_reducible refine (HD.out X L _ PX.out).mono ?_
 rintro e w5 ⟨y, m, oo, t, hp5, hy5, hc5, hrel, hres⟩
 have LB := Hi (show d + 2 < w5.heap.size from Nat.lt_of_lt_of_le OF.out.lt hc5.size)
 have OI := Hi (hc5.obj OI.out (fun h => by have := HLB.out; have := HXB.out; omega))
 have OF := Hi (hc5.obj OF.out (fun h => by have := HLB.out; have := HXB.out; omega))
 have CH := Hi (CH.out.after hc5 (fun n hn h => by have := HLB.out; have := HXB.out; have := HDe.out; omega))
 have LA := Hi (show LedAt w5 L m by have := hp5.led; rw [hy5] at this; exact this)
 have HREL := Hi hrel
 clear hp5 hy5 hc5 hrel PX
 cases oo with
 | none =>
   obtain rfl := hres
   obtain ⟨d13, hd13⟩ : ∃ b, w5.heap.size = b := ⟨_, rfl⟩
   have lI := OI.out.lt
   have lF := OF.out.lt
   have lL := LA.out.lt
   have O13 := Hi (aA w5 #[J I 0, J I 0, J I 0] 31)
   have Ld13 := Hi (show d + 2 < d13 ∧ L < d13 from by have := OF.out.lt; omega)
   rw [hd13] at O13
   clear lI lF lL
   have hA := (Chg.refl (fun _ => False) w5).alloc (.cells #[J I 0, J I 0, J I 0] 31)
   have OI := Hi (hA.obj OI.out (fun h => h))
   have OF := Hi (hA.obj OF.out (fun h => h))
   have LA := Hi (LA.out.chg hA (fun h => h))
   have CH := Hi (CH.out.trans hA)
   clear hA
   go_upto_region 6 with ((refine so 31 3 (d13) (fc 1 t) O13.out ?_; intro ws hst hO; have O13 := Hi hO; have hS := Stored.chgS (S := fun k => k = d13) hst (Chg.refl _ _) (Or.inl rfl); have OI := Hi (hS.obj OI.out (by have := HLB.out; have := Ld13.out; omega)); have OF := Hi (hS.obj OF.out (by have := HLB.out; have := Ld13.out; omega)); have LA := Hi (LA.out.chg hS (by have := HLB.out; have := Ld13.out; omega)); have CH := Hi (Stored.chgS hst CH.out (Or.inr (by have := HDe.out; have := HLB.out; have := Ld13.out; omega))); clear hst hO hS))
   clear hd13
   go_upto_region 7 with (fail)
   refine wp_region_noPanic ?_
   refine wp_region_held_drew (S := fun w' => w'.rangeAt d13 0 (fc 1 t)) (by kernel_rfl) (Obj1.range0 (cs := fc 1 t) O13.out) (fun hHeld => ?_)
   refine zt 0 (.agg #[J I 0, J I 0, .slice none 0 0]) rfl hHeld ?_
   refine zl 1 31 (d13) 0 (fc 1 t) rfl (fun _ h => h) Tryz.underlying31 hHeld ?_
   refine zt 2 (Y (some ⟨L, 0, none⟩)) rfl hHeld ?_
   have OI := Hi OI.out.drew
   have OF := Hi OF.out.drew
   have LA := Hi (LA.out.chg ((Chg.refl (fun _ => False) _).drew) (fun h => h))
   have O13 := Hi O13.out.drew
   have CH := Hi CH.out.drew
   generalize World.drew _ = wk at OI OF LA O13 CH ⊢
   refine wpAnyH_ready (rs := [3]) (by kernel_rfl) (by simp) ?_
   refine AllReadyH.cons (o := _) rfl (fun K' hK => ?_) AllReadyH.nil
   rw [if_pos (by rfl)]
   refine wp_store_mid 29 _ _ rfl (d + 1) 0 (List.toArray ([J I 0, J I 0, .slice none 0 0])) rfl rfl (OI.out.there 0 3 (by first | exact Nat.le_refl _ | simp)) (by kernel_rfl) (all_oneCell_toArray (List.all_eq_true.1 (by rfl))) ?_
   simp only [Act.put, zq1, zq2, zq3, zq4, zq5, zq6]
   have hst : Stored wk (d + 1) 0 ([J I 0, J I 0, .slice none 0 0]) (wk.setCells (d + 1) 0 ([J I 0, J I 0, .slice none 0 0])) := rfl
   have hO := hst.whole OI.out (by first | rfl | simp)
   have OI := Hi hO
   have hS := Stored.chgS (S := fun k => k = d + 1) hst (Chg.refl _ _) (Or.inl rfl)
   have OF := Hi (hS.obj OF.out (by have := HLB.out; have := Ld13.out; omega))
   have LA := Hi (LA.out.chg hS (by have := HLB.out; have := Ld13.out; omega))
   have O13 := Hi (hS.obj O13.out (by have := HLB.out; have := Ld13.out; omega))
   have CH := Hi (Stored.chgS hst CH.out (Or.inr (by have := HDe.out; have := HLB.out; have := Ld13.out; omega)))
   clear hst hO hS
   generalize World.setCells _ _ _ _ = wk2 at OI OF LA O13 CH ⊢
   refine hK _ _ (Obj1.range0 (cs := fc 1 t) O13.out) (fun hH0 => ?_)
   clear hK K'
   obtain ⟨wk, rfl⟩ : ∃ z, z = wk2 := ⟨_, rfl⟩
   refine wpAnyH_ready (rs := [4]) (by kernel_rfl) (by simp) ?_
   refine AllReadyH.cons (o := _) rfl (fun K' hK => ?_) AllReadyH.nil
   rw [if_pos (by rfl)]
   refine wp_store_mid 31 _ _ rfl (d + 2) 0 (List.toArray (fc 1 t)) rfl rfl (OF.out.there 0 3 (by first | exact Nat.le_refl _ | simp)) (by kernel_rfl) (all_oneCell_toArray (List.all_eq_true.1 (by rfl))) ?_
   simp only [Act.put, zq1, zq2, zq3, zq4, zq5, zq6]
   have hst : Stored wk (d + 2) 0 (fc 1 t) (wk.setCells (d + 2) 0 (fc 1 t)) := rfl
   have hO := hst.whole OF.out (by first | rfl | simp)
   have OF := Hi hO
   have hS := Stored.chgS (S := fun k => k = d + 2) hst (Chg.refl _ _) (Or.inl rfl)
   have OI := Hi (hS.obj OI.out (by have := HLB.out; have := Ld13.out; omega))
   have LA := Hi (LA.out.chg hS (by have := HLB.out; have := Ld13.out; omega))
   have O13 := Hi (hS.obj O13.out (by have := HLB.out; have := Ld13.out; omega))
   have CH := Hi (Stored.chgS hst CH.out (Or.inr (by have := HDe.out; have := HLB.out; have := Ld13.out; omega)))
   clear hst hO hS
   generalize World.setCells _ _ _ _ = wk2 at OI OF LA O13 CH ⊢
   refine hK _ _ (Obj1.range0 (cs := fc 1 t) O13.out) (fun hH1 => ?_)
   clear hK K'
   obtain ⟨wk, rfl⟩ : ∃ z, z = wk2 := ⟨_, rfl⟩
   refine zt 5 (Y (some ⟨L, 0, none⟩)) rfl hH1 ?_
   refine wpAnyH_done (by kernel_rfl) ?_ _
   refine NoPanic.normal ?_
   go_wp2_with fail
   refine bodyPost_ret (v := .tuple #[.agg ([J I 0, J I 0, .slice none 0 0]).toArray, .agg (fc 1 t).toArray, Y (some ⟨L, 0, none⟩)]) ?_ rfl ⟨L, y, m, none, t, LA.out, by have := HLB.out; have := HDe.out; omega, chg_none CH.out, HREL.out, rfl⟩
   exact results_cct Tryz.results7 _ _ _ _ ([J I 0, J I 0, .slice none 0 0]) (fc 1 t) _ _ _ rfl OI.out.range0 Tryz.underlying29 rfl (by kernel_rfl) rfl OF.out.range0 Tryz.underlying31 rfl (by kernel_rfl) rfl
 | some WHD =>
   obtain ⟨W, H, dd⟩ := WHD
   obtain ⟨R, B, g, rfl, hra, hr1, hr2, hr3⟩ := hres
   have hrr : d + 2 < R ∧ d + 2 < B ∧ d + 2 < g ∧ R ≠ L ∧ B ≠ L := by have := HW2.out; omega
   obtain ⟨Wn, hWn⟩ : ∃ n, W.toNat = n := ⟨_, rfl⟩
   obtain ⟨Hn, hHn⟩ : ∃ n, H.toNat = n := ⟨_, rfl⟩
   have HWH := Hi (show W.toNat = Wn ∧ H.toNat = Hn from ⟨hWn, hHn⟩)
   rw [hWn, hHn] at hra
   clear hWn hHn
   have HIM := Hi (fun w0 (h0 : RasAt w0 R ⟨L, Wn, Hn, B, true, ⟨L, g, dd, true⟩⟩) => (show Calls Tryz.prog 22 #[Y (some ⟨R, 0, none⟩)] w0 (fun e w' => e = .returned (.tuple #[.agg (List.toArray [J I (Wn : Nat), J I (Hn : Nat), .slice (some ⟨g, 0, none⟩) dd.length dd.length]), .bool true]) ∧ Obj1 w' g (aY dd).toArray 5 ∧ Chg (fun k => k = R ∨ k = B) w0 w') from (rimage_yes R _ w0 h0 rfl).mono fun e w' hh => ⟨hh.1, hh.2.2.1, hh.2.2.2⟩))
   have RA := Hi hra
   have HRR := Hi hrr
   clear hra hr1 hr2 hr3 hrr
   obtain ⟨d13, hd13⟩ : ∃ b, w5.heap.size = b := ⟨_, rfl⟩
   have lI := OI.out.lt
   have lF := OF.out.lt
   have lL := LA.out.lt
   have lR := RA.out.lt
   have lB := RA.out.buf.lt
   have lg := RA.out.buf.glt (RA.out.opn.trans rfl)
   have lB : B < w5.heap.size := lB
   have lg : g < w5.heap.size := lg
   have O13 := Hi (aA w5 #[J I 0, J I 0, J I 0] 31)
   have Ld13 := Hi (show d + 2 < d13 ∧ L < d13 ∧ R < d13 ∧ B < d13 ∧ g < d13 from by have := OF.out.lt; omega)
   rw [hd13] at O13
   clear lR lB lg lI lF lL
   have hA := (Chg.refl (fun _ => False) w5).alloc (.cells #[J I 0, J I 0, J I 0] 31)
   have OI := Hi (hA.obj OI.out (fun h => h))
   have OF := Hi (hA.obj OF.out (fun h => h))
   have LA := Hi (LA.out.chg hA (fun h => h))
   have RA := Hi (RA.out.chg hA (fun h => h) (fun h => h) (fun h => h))
   have CH := Hi (CH.out.trans hA)
   clear hA
   go_upto_region 6 with ((refine so 31 3 (d13) (fc 1 (0, 0)) O13.out ?_; intro ws hst hO; have O13 := Hi hO; have hS := Stored.chgS (S := fun k => k = d13) hst (Chg.refl _ _) (Or.inl rfl); have OI := Hi (hS.obj OI.out (by have := HLB.out; have := Ld13.out; have := HRR.out; omega)); have OF := Hi (hS.obj OF.out (by have := HLB.out; have := Ld13.out; have := HRR.out; omega)); have LA := Hi (LA.out.chg hS (by have := HLB.out; have := Ld13.out; have := HRR.out; omega)); have RA := Hi (RA.out.chg hS (by have := HLB.out; have := Ld13.out; have := HRR.out; omega) (show ¬ B = _ by have := HLB.out; have := Ld13.out; have := HRR.out; omega) (show ¬ g = _ by have := HLB.out; have := Ld13.out; have := HRR.out; omega)); have CH := Hi (Stored.chgS hst CH.out (Or.inr (by have := HDe.out; have := HLB.out; have := Ld13.out; have := HRR.out; omega))); clear hst hO hS))
   clear hd13
   go_upto_region 8 with (fail)
   go_wp2_with (fail)
   with_reducible refine (HIM.out _ RA.out).mono ?_
   rintro e w8 ⟨rfl, hg8, hc8⟩
   have OI := Hi (hc8.obj OI.out (fun h => by have := HLB.out; have := Ld13.out; have := HRR.out; omega))
   have OF := Hi (hc8.obj OF.out (fun h => by have := HLB.out; have := Ld13.out; have := HRR.out; omega))
   have LA := Hi (LA.out.chg hc8 (fun h => by have := HLB.out; have := Ld13.out; have := HRR.out; omega))
   have O13 := Hi (hc8.obj O13.out (fun h => by have := HLB.out; have := Ld13.out; have := HRR.out; omega))
   have MG := Hi hg8
   have CH := Hi (CH.out.after hc8 (fun n hn h => by have := HDe.out; have := HRR.out; omega))
   clear RA hg8 hc8 HIM
   obtain ⟨d14, hd14⟩ : ∃ b, w8.heap.size = b := ⟨_, rfl⟩
   have lI := OI.out.lt
   have lF := OF.out.lt
   have lL := LA.out.lt
   have lO13 := O13.out.lt
   have lMG := MG.out.lt
   have O14 := Hi (aA w8 #[J I 0, J I 0, .slice none 0 0] 29)
   have Ld14 := Hi (show d + 2 < d14 ∧ L < d14 ∧ d13 < d14 ∧ g < d14 from by have := OF.out.lt; omega)
   rw [hd14] at O14
   clear lI lF lL lO13 lMG
   have hA := (Chg.refl (fun _ => False) w8).alloc (.cells #[J I 0, J I 0, .slice none 0 0] 29)
   have OI := Hi (hA.obj OI.out (fun h => h))
   have OF := Hi (hA.obj OF.out (fun h => h))
   have LA := Hi (LA.out.chg hA (fun h => h))
   have O13 := Hi (hA.obj O13.out (fun h => h))
   have MG := Hi (hA.obj MG.out (fun h => h))
   have CH := Hi (CH.out.trans hA)
   clear hA
   go_upto_region 9 with ((refine so 29 3 (d14) ([J I (Wn : Nat), J I (Hn : Nat), .slice (some ⟨g, 0, none⟩) dd.length dd.length]) O14.out ?_; intro ws hst hO; have O14 := Hi hO; have hS := Stored.chgS (S := fun k => k = d14) hst (Chg.refl _ _) (Or.inl rfl); have OI := Hi (hS.obj OI.out (by have := HLB.out; have := Ld13.out; have := Ld14.out; have := HRR.out; omega)); have OF := Hi (hS.obj OF.out (by have := HLB.out; have := Ld13.out; have := Ld14.out; have := HRR.out; omega)); have LA := Hi (LA.out.chg hS (by have := HLB.out; have := Ld13.out; have := Ld14.out; have := HRR.out; omega)); have O13 := Hi (hS.obj O13.out (by have := HLB.out; have := Ld13.out; have := Ld14.out; have := HRR.out; omega)); have MG := Hi (hS.obj MG.out (by have := HLB.out; have := Ld13.out; have := Ld14.out; have := HRR.out; omega)); have CH := Hi (Stored.chgS hst CH.out (Or.inr (by have := HDe.out; have := HLB.out; have := Ld13.out; have := Ld14.out; have := HRR.out; omega))); clear hst hO hS))
   clear hd14
   refine wp_region_noPanic ?_
   refine wp_region_held_drew (S := fun w' => w'.rangeAt d14 0 [J I (Wn : Nat), J I (Hn : Nat), .slice (some ⟨g, 0, none⟩) dd.length dd.length] ∧ w'.rangeAt d13 0 (fc 1 (0, 0))) (by kernel_rfl) (⟨Obj1.range0 (cs := [J I (Wn : Nat), J I (Hn : Nat), .slice (some ⟨g, 0, none⟩) dd.length dd.length]) O14.out, Obj1.range0 (cs := fc 1 (0, 0)) O13.out⟩) (fun hHeld => ?_)
   refine zl 0 29 (d14) 0 ([J I (Wn : Nat), J I (Hn : Nat), .slice (some ⟨g, 0, none⟩) dd.length dd.length]) rfl (fun _ h => h.1) Tryz.underlying29 hHeld ?_
   refine zl 1 31 (d13) 0 (fc 1 (0, 0)) rfl (fun _ h => h.2) Tryz.underlying31 hHeld ?_
   refine zt 2 (Y (some ⟨L, 0, none⟩)) rfl hHeld ?_
   have OI := Hi OI.out.drew
   have OF := Hi OF.out.drew
   have LA := Hi (LA.out.chg ((Chg.refl (fun _ => False) _).drew) (fun h => h))
   have O13 := Hi O13.out.drew
   have MG := Hi MG.out.drew
   have O14 := Hi O14.out.drew
   have CH := Hi CH.out.drew
   generalize World.drew _ = wk at OI OF LA O13 MG O14 CH ⊢
   refine wpAnyH_ready (rs := [3]) (by kernel_rfl) (by simp) ?_
   refine AllReadyH.cons (o := _) rfl (fun K' hK => ?_) AllReadyH.nil
   rw [if_pos (by rfl)]
   refine wp_store_mid 29 _ _ rfl (d + 1) 0 (List.toArray ([J I (Wn : Nat), J I (Hn : Nat), .slice (some ⟨g, 0, none⟩) dd.length dd.length])) rfl rfl (OI.out.there 0 3 (by first | exact Nat.le_refl _ | simp)) (by kernel_rfl) (all_oneCell_toArray (List.all_eq_true.1 (by rfl))) ?_
   simp only [Act.put, zq1, zq2, zq3, zq4, zq5, zq6]
   have hst : Stored wk (d + 1) 0 ([J I (Wn : Nat), J I (Hn : Nat), .slice (some ⟨g, 0, none⟩) dd.length dd.length]) (wk.setCells (d + 1) 0 ([J I (Wn : Nat), J I (Hn : Nat), .slice (some ⟨g, 0, none⟩) dd.length dd.length])) := rfl
   have hO := hst.whole OI.out (by first | rfl | simp)
   have OI := Hi hO
   have hS := Stored.chgS (S := fun k => k = d + 1) hst (Chg.refl _ _) (Or.inl rfl)
   have OF := Hi (hS.obj OF.out (by have := HLB.out; have := Ld13.out; have := Ld14.out; have := HRR.out; omega))
   have LA := Hi (LA.out.chg hS (by have := HLB.out; have := Ld13.out; have := Ld14.out; have := HRR.out; omega))
   have O13 := Hi (hS.obj O13.out (by have := HLB.out; have := Ld13.out; have := Ld14.out; have := HRR.out; omega))
   have MG := Hi (hS.obj MG.out (by have := HLB.out; have := Ld13.out; have := Ld14.out; have := HRR.out; omega))
   have O14 := Hi (hS.obj O14.out (by have := HLB.out; have := Ld13.out; have := Ld14.out; have := HRR.out; omega))
   have CH := Hi (Stored.chgS hst CH.out (Or.inr (by have := HDe.out; have := HLB.out; have := Ld13.out; have := Ld14.out; have := HRR.out; omega)))
   clear hst hO hS
   generalize World.setCells _ _ _ _ = wk2 at OI OF LA O13 MG O14 CH ⊢
   refine hK _ _ (⟨Obj1.range0 (cs := [J I (Wn : Nat), J I (Hn : Nat), .slice (some ⟨g, 0, none⟩) dd.length dd.length]) O14.out, Obj1.range0 (cs := fc 1 (0, 0)) O13.out⟩) (fun hH0 => ?_)
   clear hK K'
   obtain ⟨wk, rfl⟩ : ∃ z, z = wk2 := ⟨_, rfl⟩
   refine wpAnyH_ready (rs := [4]) (by kernel_rfl) (by simp) ?_
   refine AllReadyH.cons (o := _) rfl (fun K' hK => ?_) AllReadyH.nil
   rw [if_pos (by rfl)]
   refine wp_store_mid 31 _ _ rfl (d + 2) 0 (List.toArray (fc 1 (0, 0))) rfl rfl (OF.out.there 0 3 (by first | exact Nat.le_refl _ | simp)) (by kernel_rfl) (all_oneCell_toArray (List.all_eq_true.1 (by rfl))) ?_
   simp only [Act.put, zq1, zq2, zq3, zq4, zq5, zq6]
   have hst : Stored wk (d + 2) 0 (fc 1 (0, 0)) (wk.setCells (d + 2) 0 (fc 1 (0, 0))) := rfl
   have hO := hst.whole OF.out (by first | rfl | simp)
   have OF := Hi hO
   have hS := Stored.chgS (S := fun k => k = d + 2) hst (Chg.refl _ _) (Or.inl rfl)
   have OI := Hi (hS.obj OI.out (by have := HLB.out; have := Ld13.out; have := Ld14.out; have := HRR.out; omega))
   have LA := Hi (LA.out.chg hS (by have := HLB.out; have := Ld13.out; have := Ld14.out; have := HRR.out; omega))
   have O13 := Hi (hS.obj O13.out (by have := HLB.out; have := Ld13.out; have := Ld14.out; have := HRR.out; omega))
   have MG := Hi (hS.obj MG.out (by have := HLB.out; have := Ld13.out; have := Ld14.out; have := HRR.out; omega))
   have O14 := Hi (hS.obj O14.out (by have := HLB.out; have := Ld13.out; have := Ld14.out; have := HRR.out; omega))
   have CH := Hi (Stored.chgS hst CH.out (Or.inr (by have := HDe.out; have := HLB.out; have := Ld13.out; have := Ld14.out; have := HRR.out; omega)))
   clear hst hO hS
   generalize World.setCells _ _ _ _ = wk2 at OI OF LA O13 MG O14 CH ⊢
   refine hK _ _ (⟨Obj1.range0 (cs := [J I (Wn : Nat), J I (Hn : Nat), .slice (some ⟨g, 0, none⟩) dd.length dd.length]) O14.out, Obj1.range0 (cs := fc 1 (0, 0)) O13.out⟩) (fun hH1 => ?_)
   clear hK K'
   obtain ⟨wk, rfl⟩ : ∃ z, z = wk2 := ⟨_, rfl⟩
   refine zt 5 (Y (some ⟨L, 0, none⟩)) rfl hH1 ?_
   refine wpAnyH_done (by kernel_rfl) ?_ _
   refine NoPanic.normal ?_
   go_wp2_with fail
   refine bodyPost_ret (v := .tuple #[.agg ([J I (Wn : Nat), J I (Hn : Nat), .slice (some ⟨g, 0, none⟩) dd.length dd.length]).toArray, .agg (fc 1 (0, 0)).toArray, Y (some ⟨L, 0, none⟩)]) ?_ rfl ⟨L, y, m, some (W, H, dd), t, LA.out, by have := HLB.out; have := HDe.out; omega, chg_none CH.out, HREL.out, g, by rw [HWH.out.1, HWH.out.2], MG.out, by have := HRR.out; have := HDe.out; omega⟩
   exact results_cct Tryz.results7 _ _ _ _ ([J I (Wn : Nat), J I (Hn : Nat), .slice (some ⟨g, 0, none⟩) dd.length dd.length]) (fc 1 (0, 0)) _ _ _ rfl OI.out.range0 Tryz.underlying29 rfl (by kernel_rfl) rfl OF.out.range0 Tryz.underlying31 rfl (by kernel_rfl) rfl
theorem hRead_broken (x : Sr) (l : Led) (f : Int) (hb : l.br = true) : (aJ x l f).1.2 = [J I 4, J I f, J I x.p] := by
 have hw : l.work 1 = (l, false) := by unfold Led.work; rw [if_pos hb]
 have hn : x.next l 4 = ((x, l), (ByteArray.empty, false)) := by unfold Sr.next; rw [hw, if_neg (fun h => by cases h.1)]
 have e1 : tkOk x l = false := by unfold tkOk; rw [hn]; rfl
 unfold aJ
 rw [if_pos e1]
 unfold ac
 rw [hn, if_pos rfl]
 show aK x l f = _
 unfold aK
 rw [if_pos hb]
theorem zero3_ne {k a b : Int} (hk : k ≠ 0) (h : [Value.int .i64 k, J I a, J I b] = zero3) : False := by
 unfold zero3 at h; injection h with h1; injection h1 with _ h2; exact hk h2
theorem bbeg_1 {x : Sr} {l : Led} (h : (x.next l 14).2.2 = false) : x.bbeg l = ((x, (x.next l 14).1.2), (0, x.ftc (x.next l 14).1.2)) := by unfold Sr.bbeg; rw [if_pos h]
theorem bbeg_2 {x : Sr} {l : Led} (h : (x.next l 14).2.2 = true) (h0 : aG x.s x.p ≠ 66) : x.bbeg l = (({ x with p := x.p + 14 }, (x.next l 14).1.2), (0, (2, (x.p : Int)))) := by unfold Sr.bbeg; rw [if_neg (by rw [h]; decide), if_pos h0]
theorem bbeg_3 {x : Sr} {l : Led} (h : (x.next l 14).2.2 = true) (h0 : aG x.s x.p = 66) (h1 : aG x.s (x.p + 1) ≠ 77) : x.bbeg l = (({ x with p := x.p + 14 }, (x.next l 14).1.2), (0, (2, (x.p : Int) + 1))) := by unfold Sr.bbeg; rw [if_neg (by rw [h]; decide), if_neg (fun hh => hh h0), if_pos h1]
theorem bbeg_4 {x : Sr} {l : Led} (h : (x.next l 14).2.2 = true) (h0 : aG x.s x.p = 66) (h1 : aG x.s (x.p + 1) = 77) : x.bbeg l = (({ x with p := x.p + 14 }, (x.next l 14).1.2), (aC x.s (x.p + 10) 4, (0, 0))) := by unfold Sr.bbeg; rw [if_neg (by rw [h]; decide), if_neg (fun hh => hh h0), if_neg (fun hh => hh h1)]
theorem beg_led {x : Sr} {l : Led} (hx : x.ok) (hp : x.p = 0) (he : x.e = x.s.size) (hl : l.ok) (hb : l.br = false) : Rd x l (x.bbeg l).1 1 ∧
 (((x.bbeg l).1.2.br = true ∧ (x.bbeg l).2 = (0, (4, 0)) ∧ (x.bbeg l).1.1 = x) ∨
  ((x.bbeg l).1.2.br = false ∧ ((x.s.size < 14 ∧ (x.bbeg l).2.2 = (1, (x.s.size : Int)) ∧ (x.bbeg l).1.1 = x) ∨ (14 ≤ x.s.size ∧ (x.bbeg l).1.1 = { x with p := 14 } ∧
    ((aG x.s 0 ≠ 66 ∧ (x.bbeg l).2.2 = (2, 0)) ∨ (aG x.s 0 = 66 ∧ ((aG x.s 1 ≠ 77 ∧ (x.bbeg l).2.2 = (2, 1)) ∨ (aG x.s 1 = 77 ∧ (x.bbeg l).2 = (aC x.s 10 4, (0, 0)))))))))) := by
 have hr := (Rd.refl hx hl).next hb 14
 change Rd x l (x.next l 14).1 (0 + 1) at hr
 have hone := LW.one hb hl
 cases h2 : (x.next l 14).2.2 with
 | false =>
   obtain ⟨n1, n2, n3, n4⟩ := next_bad h2
   rw [bbeg_1 h2]
   refine ⟨?_, ?_⟩
   · show Rd x l (x, (x.next l 14).1.2) 1
     rw [show (x, (x.next l 14).1.2) = (x.next l 14).1 from Prod.ext n1.symm rfl]
     exact hr
   · cases hbr : (x.next l 14).1.2.br with
     | true => exact Or.inl ⟨rfl, by show ((0 : Int), x.ftc (x.next l 14).1.2) = _; unfold Sr.ftc; rw [if_pos hbr, hp]; rfl, rfl⟩
     | false =>
       refine Or.inr ⟨rfl, Or.inl ⟨?_, by show x.ftc (x.next l 14).1.2 = _; unfold Sr.ftc; rw [if_neg (by rw [hbr]; decide), he], rfl⟩⟩
       rw [n2] at hbr
       rcases hone with ⟨a, _, _⟩ | ⟨_, _, a⟩
       · have : ¬ (14 : Int) ≤ (x.e : Int) - x.p := fun hh => n4 ⟨a, by decide, hh⟩
         omega
       · rw [hbr] at a; cases a
 | true =>
   obtain ⟨n1, n2, n3, n4, n5, n6⟩ := next_ok h2
   have hbr := next_br h2
   have n4 : (x.next l 14).1.1 = { x with p := x.p + 14 } := n4
   have hr2 : Rd x l ({ x with p := x.p + 14 }, (x.next l 14).1.2) 1 := by
    rw [show (({ x with p := x.p + 14 } : Sr), (x.next l 14).1.2) = (x.next l 14).1 from Prod.ext n4.symm rfl]
    exact hr
   have e14 : ({ x with p := x.p + 14 } : Sr) = { x with p := 14 } := by rw [hp]
   by_cases c0 : aG x.s x.p = 66
   · by_cases c1 : aG x.s (x.p + 1) = 77
     · rw [bbeg_4 h2 c0 c1]
       rw [hp] at c0 c1
       exact ⟨hr2, Or.inr ⟨hbr, Or.inr ⟨by omega, e14, Or.inr ⟨c0, Or.inr ⟨c1, by rw [hp]⟩⟩⟩⟩⟩
     · rw [bbeg_3 h2 c0 c1]
       rw [hp] at c0 c1
       exact ⟨hr2, Or.inr ⟨hbr, Or.inr ⟨by omega, e14, Or.inr ⟨c0, Or.inl ⟨c1, by rw [hp]; rfl⟩⟩⟩⟩⟩
   · rw [bbeg_2 h2 c0]
     rw [hp] at c0
     exact ⟨hr2, Or.inr ⟨hbr, Or.inr ⟨by omega, e14, Or.inl ⟨c0, by rw [hp]; rfl⟩⟩⟩⟩
theorem at_inj {h H : Hd} {k0 k1 k2 k3 k4 k5 k6 k7 fr a0 a1 a2 a3 a4 a5 a6 a7 p : Int} (e : h.at [k0, k1, k2, k3, k4, k5, k6, k7] fr = H.at [a0, a1, a2, a3, a4, a5, a6, a7] p) : (h.sz = H.sz ∧ h.w = H.w ∧ h.h = H.h ∧ h.top = H.top ∧ h.dp = H.dp ∧ h.mt = H.mt ∧ h.co = H.co) ∧ (k0 = a0 ∧ k1 = a1 ∧ k2 = a2 ∧ k3 = a3 ∧ k4 = a4 ∧ k5 = a5 ∧ k6 = a6 ∧ k7 = a7) := by
 unfold Hd.at at e
 simp at e
 obtain ⟨e1, e2, e3, e4, e5, e6, e7, e8, e9, e10, e11, e12, e13, e14, e15, e16⟩ := e
 exact ⟨⟨e1, e2, e3, e4, e5, e6, e7⟩, e8, e9, e10, e11, e12, e13, e14, e15⟩
theorem head_good {x : Sr} {l : Led} {f : Int} (hx : x.ok) (he : x.e = x.s.size) (hs : x.s.size ≤ 100000) (hl : l.ok) (hst : l.st ≤ 1000) {h : Hd} {k0 k1 k2 k3 k4 k5 k6 k7 fr : Int} (hh : (aJ x l f).1 = (h.at [k0, k1, k2, k3, k4, k5, k6, k7] fr, zero3)) :
 l.br = false ∧ (aJ x l f).2.2.br = false ∧ ∃ (H : Hd) (r g b q : Int) (en : Nat), (h.sz = H.sz ∧ h.w = H.w ∧ h.h = H.h ∧ h.top = H.top ∧ h.dp = H.dp ∧ h.mt = H.mt ∧ h.co = H.co) ∧ H.fine ∧ H.more ∧ aZ x.s x.p = rOk H r g b q x.p en ∧ (aJ x l f).2.1 = ⟨x.L, x.s, x.b, x.e, en⟩ ∧ en ≤ x.s.size ∧ x.p + 12 ≤ en ∧
  (pairOk k0 k1 r ∧ pairOk k2 k3 g ∧ pairOk k4 k5 b ∧ pairOk k6 k7 q) ∧ (wordI k0 k1 = r ∧ wordI k2 k3 = g ∧ wordI k4 k5 = b ∧ wordI k6 k7 = q) := by
 have h2 : (aJ x l f).1.2 = zero3 := by rw [hh]
 have hb : l.br = false := by
  cases hb : l.br with
  | false => rfl
  | true => rw [hRead_broken x l f hb] at h2; exact (zero3_ne (by decide) h2).elim
 refine ⟨hb, ?_⟩
 rcases head_led x l f hx he hs hl hb hst with ⟨g1, g2⟩ | ⟨g1, ⟨k, a, g2, _, _, g3⟩ | ⟨H, r, g, b, q, en, g2, g3, g4, g5, g6, g7, g8, g9⟩⟩
 · rw [g2] at h2
   have h3 : aK (aJ x l f).2.1 (aJ x l f).2.2 f = zero3 := h2
   rw [faultL_br f g1] at h3
   exact (zero3_ne (k := 4) (by decide) h3).elim
 · rw [g3] at h2
   exact (zero3_ne g2 h2).elim
 · refine ⟨g1, H, r, g, b, q, en, ?_⟩
   obtain ⟨F, m1, m2, m3, m4, m5⟩ := masks_pairs x.s x.p H r g b q g6
   rw [hh, m1] at g5
   obtain ⟨i1, ⟨j0, j1, j2, j3, j4, j5, j6, j7⟩⟩ := at_inj (Prod.ext_iff.1 g5).1
   obtain ⟨v0, v1, v2, v3, v4, v5, v6, v7, w0, w1, w2, w3, w4⟩ := g6
   rw [m1] at w0
   obtain ⟨z0, z1, z2, z3, z4, z5, z6, z7⟩ := list8_inj w0
   rw [j0, j1, j2, j3, j4, j5, j6, j7]
   exact ⟨i1, g2, g3, g4, g7, g8, g9, ⟨m2, m3, m4, m5⟩, by rw [z0, z1]; exact w1, by rw [z2, z3]; exact w2, by rw [z4, z5]; exact w3, by rw [z6, z7]; exact w4⟩
def decBD (x : Sr) (l : Led) (at_ : Int) (h : Hd) (ks : List Int) (fr : Int) : Sr → Led → Option (List Int) → Int × Int → Prop :=
 BodR x l (kdOf h.sz) h.w.toNat h.h.toNat h.dp.toNat h.co.toNat h.top h.mt (wordI (ks.getD 0 0) (ks.getD 1 0)) (wordI (ks.getD 2 0) (ks.getD 3 0)) (wordI (ks.getD 4 0) (ks.getD 5 0)) (wordI (ks.getD 6 0) (ks.getD 7 0)) at_
structure GoodH (x : Sr) (h : Hd) : Prop where
 wb : 1 ≤ h.w ∧ h.w ≤ 16384
 hb : 1 ≤ h.h ∧ h.h ≤ 16384
 dp : dpOk h.dp.toNat ∧ 0 ≤ h.dp
 m1 : h.mt = 1 → h.dp = 8
 m2 : h.mt = 2 → h.dp = 4
 co : 0 ≤ h.co ∧ h.co ≤ 256
 c1 : h.dp ≤ 8 → 1 ≤ h.co
theorem goodH {x : Sr} {h H : Hd} (e : h.sz = H.sz ∧ h.w = H.w ∧ h.h = H.h ∧ h.top = H.top ∧ h.dp = H.dp ∧ h.mt = H.mt ∧ h.co = H.co) (hf : H.fine) (hm : H.more) : GoodH x h := by
 obtain ⟨e1, e2, e3, e4, e5, e6, e7⟩ := e
 refine ⟨by rw [e2]; exact ⟨hf.w1, hf.w2⟩, by rw [e3]; exact ⟨hm.h1, hm.h2⟩, ?_, fun h => by rw [e5]; exact (hm.m1 (by rw [← e6]; exact h)).1, fun h => by rw [e5]; exact (hm.m2 (by rw [← e6]; exact h)).1, by rw [e7]; exact hm.c0, fun h => by rw [e7]; exact (hm.c1 (by rw [← e5]; exact h)).1⟩
 rw [e5]
 rcases hf.dp with h | h | h | h | h | h <;> rw [h] <;> exact ⟨by unfold dpOk; decide, by decide⟩
theorem dec_calls (X L : Nat) (x : Sr) (l : Led) (w : World) (hx : Pair w X x l) (hL : x.L = L) (hp : x.p = 0) (he : x.e = x.s.size) (hs : x.s.size ≤ 100000) (hb : l.br = false) (hst : l.st = 0) :
 Calls Tryz.prog 8 #[Y (some ⟨X, 0, none⟩)] w (DecEnd X L (DecRel x l (decBD (aJ (x.bbeg l).1.1 (x.bbeg l).1.2 1).2.1 (aJ (x.bbeg l).1.1 (x.bbeg l).1.2 1).2.2 ((x.p : Int) + (x.bbeg l).2.1))) w) := by
 refine decode_any X L x l _ w hx hL (by omega) ?_
 obtain ⟨hr, _⟩ := beg_led hx.src.ok hp he hx.led.ok hb
 obtain ⟨x1, hx1⟩ : ∃ x1, (x.bbeg l).1.1 = x1 := ⟨_, rfl⟩
 obtain ⟨l1, hl1⟩ : ∃ l1, (x.bbeg l).1.2 = l1 := ⟨_, rfl⟩
 have rL := hr.L
 have rs := hr.s
 have re := hr.e
 have ro := hr.ok
 have rlo := hr.lo
 obtain ⟨k, hk, hlw⟩ := hr.lw
 have hst1 := hlw.fields.2.2.2.2.2.2
 rw [hx1] at rL rs re ro
 rw [hl1] at rlo hst1
 rw [hx1, hl1]
 intro h k0 k1 k2 k3 k4 k5 k6 k7 fr hh w0 h0
 obtain ⟨b1, b2, H, r, g, b, q, en, i1, i2, i3, i4, i5, i6, i7, ⟨p0, p1, p2, p3⟩, ⟨v0, v1, v2, v3⟩⟩ := head_good ro (by rw [re, rs]; exact he) (by rw [rs]; exact hs) rlo (by omega) hh
 have G := goodH (x := x) i1 i2 i3
 obtain ⟨W, hW⟩ : ∃ W : Nat, h.w = W := ⟨h.w.toNat, by have := G.wb; omega⟩
 obtain ⟨HH, hH⟩ : ∃ W : Nat, h.h = W := ⟨h.h.toNat, by have := G.hb; omega⟩
 obtain ⟨dp, hdp⟩ : ∃ W : Nat, h.dp = W := ⟨h.dp.toNat, by have := G.dp.2; omega⟩
 obtain ⟨co, hco⟩ : ∃ W : Nat, h.co = W := ⟨h.co.toNat, by have := G.co; omega⟩
 have Gw := G.wb
 have Gh := G.hb
 have Gd := G.dp.1
 have G1 := G.m1
 have G2 := G.m2
 have Gc := G.co
 have Gc1 := G.c1
 unfold decBD
 rw [hW, hH, hdp, hco]
 simp only [Int.toNat_natCast]
 rw [hW] at Gw
 rw [hH] at Gh
 rw [hdp] at Gd G1 G2 Gc1
 rw [hco] at Gc Gc1
 rw [Int.toNat_natCast] at Gd
 have e2 : (aJ x1 l1 1).2.1.L = L := by rw [i5]; show x1.L = L; rw [rL, hL]
 have e3 : (aJ x1 l1 1).2.1.s.size < 1000000000 := by rw [i5]; show x1.s.size < _; rw [rs]; omega
 subst v0 v1 v2 v3
 have hB := body_led h.sz W HH h.top dp h.mt co (fOf8 k0 k1 k2 k3 k4 k5 k6 k7) fr ((x.p : Int) + (x.bbeg l).2.1) 1 X L (aJ x1 l1 1).2.1 (aJ x1 l1 1).2.2 (wordI k0 k1) (wordI k2 k3) (wordI k4 k5) (wordI k6 k7) (kdOf h.sz) w0 h0 e2 b2 e3
  (by omega) (by omega) Gd (fun h => by have := G1 h; omega) (fun h => by have := G2 h; omega) (fun h => by have := Gc1 (by omega); omega) (by omega) rfl p0 p1 p2 p3
 exact hB
structure DecAll (s : ByteArray) (l m : Led) (o : Option (Int × Int × List Int)) (t : Int × Int) : Prop where
 lk : LK l m
 no : m.br = true → t.1 = 4 ∧ 0 ≤ t.2 ∧ t.2 ≤ s.size ∧ m.bt = l.bt ∧ o = none
 yes : m.br = false → t.1 ≠ 4 ∧ RefDec s (o.map fun q => (q.1, q.2.1, aY q.2.2)) t
 rich : (∀ (H : Hd) (r g b q : Int) (en : Nat), aZ s 14 = rOk H r g b q 14 en → H.w ≤ 60 ∧ H.h ≤ 60) → 60 ≤ l.mw → 60 ≤ l.mh → l.bt + 20000 ≤ l.mb → s.size ≤ 1500 → 20000 < l.mx → m.br = false
theorem rd_lk {x : Sr} {l : Led} {q : Sr × Led} {j : Nat} (h : Rd x l q j) (hb : l.br = false) : LK l q.2 ∧ q.2.bt = l.bt ∧ q.2.st ≤ l.st + j ∧ l.st ≤ q.2.st ∧ (l.st + j < l.mx → q.2.br = false) := by
 obtain ⟨k, hk, hlw⟩ := h.lw
 obtain ⟨a1, a2, a3⟩ := hlw.lk h.lo
 exact ⟨a1, a2, by omega, by omega, fun hh => lw_rich hlw hb hk hh⟩
theorem dec_all {x : Sr} {l : Led} (hx : x.ok) (hp : x.p = 0) (h0 : x.b = 0) (he : x.e = x.s.size) (hs : x.s.size ≤ 100000) (hl : l.ok) (hb : l.br = false) (hst : l.st = 0) {y : Sr} {m : Led} {o : Option (Int × Int × List Int)} {t : Int × Int}
 (h : DecRel x l (decBD (aJ (x.bbeg l).1.1 (x.bbeg l).1.2 1).2.1 (aJ (x.bbeg l).1.1 (x.bbeg l).1.2 1).2.2 ((x.p : Int) + (x.bbeg l).2.1)) y m o t) : DecAll x.s l m o t := by
 obtain ⟨hr, hc⟩ := beg_led hx hp he hl hb
 obtain ⟨q1, q2, q3, q4, q5⟩ := rd_lk hr hb
 rcases h with ⟨f1, rfl, rfl, rfl, rfl⟩ | ⟨f0, h⟩
 · refine ⟨q1, fun hh => ?_, fun hh => ?_, fun _ _ _ _ _ hm => q5 (by omega)⟩
   · rcases hc with ⟨_, c2, _⟩ | ⟨c1, _⟩
     · rw [c2]; exact ⟨rfl, Int.le_refl _, by show (0 : Int) ≤ x.s.size; omega, q2, rfl⟩
     · rw [hh] at c1; cases c1
   · rcases hc with ⟨c1, _⟩ | ⟨_, ⟨c2, c3, _⟩ | ⟨c2, _, ⟨c3, c4⟩ | ⟨c3, ⟨c4, c5⟩ | ⟨c4, c5⟩⟩⟩⟩
     · rw [hh] at c1; cases c1
     · rw [c3]; exact ⟨by simp, Or.inl ⟨c2, rfl, rfl⟩⟩
     · rw [c4]; exact ⟨by simp, Or.inr ⟨c2, Or.inl ⟨c3, rfl, rfl⟩⟩⟩
     · rw [c5]; exact ⟨by simp, Or.inr ⟨c2, Or.inr ⟨c3, Or.inl ⟨c4, rfl, rfl⟩⟩⟩⟩
     · rw [c5] at f1; exact absurd rfl f1
 have hlast : (x.bbeg l).1.2.br = false ∧ 14 ≤ x.s.size ∧ (x.bbeg l).1.1 = { x with p := 14 } ∧ aG x.s 0 = 66 ∧ aG x.s 1 = 77 ∧ (x.bbeg l).2 = (aC x.s 10 4, (0, 0)) := by
  rcases hc with ⟨_, c2, _⟩ | ⟨c1, ⟨_, c3, _⟩ | ⟨c2, cx, ⟨c3, c4⟩ | ⟨c3, ⟨c4, c5⟩ | ⟨c4, c5⟩⟩⟩⟩
  · rw [c2] at f0; cases f0
  · rw [c3] at f0; cases f0
  · rw [c4] at f0; cases f0
  · rw [c5] at f0; cases f0
  · exact ⟨c1, c2, cx, c3, c4, c5⟩
 obtain ⟨c1, c2, c3, c4, c5, c6⟩ := hlast
 have ro := hr.ok
 have rlo := hr.lo
 rw [c6] at h
 obtain ⟨x1, hx1⟩ : ∃ x1, (x.bbeg l).1.1 = x1 := ⟨_, rfl⟩
 obtain ⟨l1, hl1⟩ : ∃ l1, (x.bbeg l).1.2 = l1 := ⟨_, rfl⟩
 rw [hx1] at c3 ro h
 rw [hl1] at c1 rlo q1 q2 q3 q4 q5 h
 rw [hp] at h
 have x1s : x1.s = x.s ∧ x1.p = 14 ∧ x1.e = x.e ∧ x1.b = x.b ∧ x1.L = x.L := by rw [c3]; exact ⟨rfl, rfl, rfl, rfl, rfl⟩
 obtain ⟨x1s, x1p, x1e, x1b, x1L⟩ := x1s
 have rd2 := hRead_rd ro rlo c1 1
 obtain ⟨z1, z2, z3, z4, z5⟩ := rd_lk rd2 c1
 have emx := q1.mx
 have emb := q1.mb
 have hpe := rd2.ok.pe
 have hee := rd2.e
 have hbr := head_led x1 l1 1 ro (by rw [x1e, x1s]; exact he) (by rw [x1s]; exact hs) rlo c1 (by omega)
 rcases h with ⟨k, p, k0, e1, rfl, rfl, rfl, rfl⟩ | ⟨h, k0, k1, k2, k3, k4, k5, k6, k7, fr, e1, hq⟩
 · refine ⟨q1.trans z1, fun hh => ?_, fun hh => ?_, fun _ _ _ _ _ hm => z5 (by omega)⟩
   · rcases hbr with ⟨_, b2⟩ | ⟨b1, _⟩
     · rw [b2, faultL_br 1 hh] at e1
       have e2 := (Prod.ext_iff.1 e1).2
       have e3 : [Value.int .i64 4, J I 1, J I ((aJ x1 l1 1).2.1.p : Int)] = [J I k, J I 1, J I p] := e2
       injection e3 with e4 e5
       injection e4 with _ e4
       injection e5 with _ e5
       injection e5 with e5
       injection e5 with _ e5
       exact ⟨e4.symm, by show (0 : Int) ≤ p; omega, by show p ≤ _; omega, by omega, rfl⟩
     · rw [hh] at b1; cases b1
   · rcases hbr with ⟨b1, _⟩ | ⟨_, ⟨k', a, b2, b3, b4, b5⟩ | ⟨H, r, g, b, q, en, _, _, _, b5, _⟩⟩
     · rw [hh] at b1; cases b1
     · rw [b5] at e1
       have e3 : [Value.int .i64 k', J I 1, J I a] = [J I k, J I 1, J I p] := (Prod.ext_iff.1 e1).2
       injection e3 with e4 e5
       injection e4 with _ e4
       injection e5 with _ e5
       injection e5 with e5
       injection e5 with _ e5
       subst e4 e5
       rw [x1s, x1p] at b4
       exact ⟨b3, Or.inr ⟨c2, Or.inr ⟨c4, Or.inr ⟨c5, Or.inl ⟨k', a, b2, b4, rfl, rfl⟩⟩⟩⟩⟩
     · rw [b5] at e1
       exact (zero3_ne k0 (Prod.ext_iff.1 e1).2.symm).elim
 obtain ⟨_, b2, H, r, g, b, q, en, i1, i2, i3, i4, i5, i6, i7, ⟨p0, p1, p2, p3⟩, ⟨v0, v1, v2, v3⟩⟩ := head_good ro (by rw [x1e, x1s]; exact he) (by rw [x1s]; exact hs) rlo (by omega) e1
 have G := goodH (x := x) i1 i2 i3
 rw [x1s, x1p] at i4
 have hgood : ∀ t O, RefBody x.s H.sz H.w H.h H.top H.dp H.mt H.co r g b q en (aC x.s 10 4) O t → RefDec x.s O t := fun t O hh => Or.inr ⟨c2, Or.inr ⟨c4, Or.inr ⟨c5, Or.inr ⟨H, r, g, b, q, en, i4, hh⟩⟩⟩⟩
 have hlo : pixLo x (aJ x1 l1 1).2.1 h = (en : Int) + kdOf H.sz * H.co := by
  unfold pixLo kdOf
  rw [i5, hp, i1.1, i1.2.2.2.2.2.2]
  show (en : Int) - ((0 : Nat) : Int) + (if H.sz = 12 then 3 else 4) * H.co = en + ((if H.sz = 12 then 3 else 4 : Nat) : Int) * H.co
  split
  · show _ = (en : Int) + (3 : Int) * H.co; omega
  · show _ = (en : Int) + (4 : Int) * H.co; omega
 rw [hlo] at hq
 rcases hq with ⟨h1, rfl, rfl, rfl, rfl⟩ | ⟨h1, h2, rfl, rfl, rfl, rfl⟩ | ⟨h1, h2, o', hB, rfl⟩
 · refine ⟨q1.trans z1, (fun hh => by rw [b2] at hh; cases hh), fun _ => ⟨by simp, hgood _ _ (Or.inl ⟨h1, rfl, rfl⟩)⟩, fun _ _ _ _ _ _ => b2⟩
 · refine ⟨q1.trans z1, (fun hh => by rw [b2] at hh; cases hh), fun _ => ⟨by simp, hgood _ _ (Or.inr (Or.inl ⟨h1, by omega, rfl, by rw [he]⟩))⟩, fun _ _ _ _ _ _ => b2⟩
 · obtain ⟨W, hW⟩ : ∃ W : Nat, h.w = W := ⟨h.w.toNat, by have := G.wb; omega⟩
   obtain ⟨HH, hH⟩ : ∃ W : Nat, h.h = W := ⟨h.h.toNat, by have := G.hb; omega⟩
   obtain ⟨dp, hdp⟩ : ∃ W : Nat, h.dp = W := ⟨h.dp.toNat, by have := G.dp.2; omega⟩
   obtain ⟨co, hco⟩ : ∃ W : Nat, h.co = W := ⟨h.co.toNat, by have := G.co; omega⟩
   have Gw := G.wb
   have Gh := G.hb
   have Gc := G.co
   have r2 := rd2.s
   unfold decBD at hB
   rw [hW, hH, hdp, hco] at hB
   simp only [Int.toNat_natCast] at hB
   have x2 : (aJ x1 l1 1).2.1.s = x.s ∧ (aJ x1 l1 1).2.1.b = 0 ∧ (aJ x1 l1 1).2.1.e = x.e ∧ (aJ x1 l1 1).2.1.p = en := by rw [i5]; exact ⟨x1s, by show x1.b = 0; rw [x1b, h0], x1e, rfl⟩
   obtain ⟨x2s, x2b, x2e, x2p⟩ := x2
   have ekd : kdOf h.sz = kdOf H.sz := by rw [i1.1]
   have eco : H.co = (co : Int) := by rw [← i1.2.2.2.2.2.2]; exact hco
   have hin : ((en + kdOf H.sz * co : Nat) : Int) ≤ aC x.s 10 4 := by
    rw [eco] at h1
    push_cast
    exact h1
   have hA := bod_led rd2.ok x2b rd2.lo b2 (by omega) (by omega) (by show ((0 : Nat) : Int) + aC x.s 10 4 ≤ _; rw [x2e]; omega) (by rw [x2p, ekd]; show _ ≤ ((0 : Nat) : Int) + aC x.s 10 4; omega) hB
   rw [x2s, x2e, x2p, ekd, he] at hA
   rw [show (([k0, k1, k2, k3, k4, k5, k6, k7] : List Int).getD 0 0) = k0 from rfl, show (([k0, k1, k2, k3, k4, k5, k6, k7] : List Int).getD 1 0) = k1 from rfl, show (([k0, k1, k2, k3, k4, k5, k6, k7] : List Int).getD 2 0) = k2 from rfl, show (([k0, k1, k2, k3, k4, k5, k6, k7] : List Int).getD 3 0) = k3 from rfl, show (([k0, k1, k2, k3, k4, k5, k6, k7] : List Int).getD 4 0) = k4 from rfl, show (([k0, k1, k2, k3, k4, k5, k6, k7] : List Int).getD 5 0) = k5 from rfl, show (([k0, k1, k2, k3, k4, k5, k6, k7] : List Int).getD 6 0) = k6 from rfl, show (([k0, k1, k2, k3, k4, k5, k6, k7] : List Int).getD 7 0) = k7 from rfl, v0, v1, v2, v3] at hA
   have e0 : ((0 : Nat) : Int) + (aC x.s 10 4, ((0 : Int), ((0 : Int), (0 : Int))).2).1 = aC x.s 10 4 := by show ((0 : Nat) : Int) + aC x.s 10 4 = _; omega
   obtain ⟨a1, a2, a3, a4⟩ := hA
   refine ⟨(q1.trans z1).trans a1, fun hh => ?_, fun hh => ?_, fun hsz m1 m2 m3 m4 m5 => ?_⟩
   · obtain ⟨s1, s2, s3, s4, s5⟩ := a2 hh
     exact ⟨s1, s2, s3, by omega, by rw [s5]; rfl⟩
   · have a3 := a3 hh
     have key : RefBody x.s H.sz H.w H.h H.top H.dp H.mt H.co r g b q en (aC x.s 10 4) ((o'.map fun d => (h.w, h.h, d)).map fun q => (q.1, q.2.1, aY q.2.2)) t ∧ t.1 ≠ 4 := by
      have hw : H.w.toNat = W := by rw [← i1.2.1, hW]; exact Int.toNat_natCast W
      have hh2 : H.h.toNat = HH := by rw [← i1.2.2.1, hH]; exact Int.toNat_natCast HH
      have hd2 : H.dp.toNat = dp := by rw [← i1.2.2.2.2.1, hdp]; exact Int.toNat_natCast dp
      have hc2 : H.co.toNat = co := by rw [eco]; exact Int.toNat_natCast co
      have e9 : (((0 : Nat) : Int) + aC x.s 10 4).toNat = (aC x.s 10 4).toNat := by rw [show ((0 : Nat) : Int) + aC x.s 10 4 = aC x.s 10 4 by omega]
      rw [show (((0 : Nat) : Int) + (aC x.s 10 4, ((0 : Int), (0 : Int))).1) = ((0 : Nat) : Int) + aC x.s 10 4 from rfl, e9] at a3
      rw [i1.2.2.2.1, i1.2.2.2.2.2.1] at a3
      unfold RefBody
      cases hr : bRef x.s x.s.size en (kdOf H.sz) W HH dp co H.top H.mt r g b q (aC x.s 10 4).toNat with
      | error z =>
        rw [hr] at a3
        refine ⟨Or.inr (Or.inr ⟨h1, by omega, ?_⟩), by rw [a3.2.1]; exact bRef_kind hr⟩
        rw [hw, hh2, hd2, hc2, hr]
        exact ⟨by rw [a3.1]; rfl, a3.2.1⟩
      | ok L =>
        rw [hr] at a3
        obtain ⟨j1, d, rfl, j2⟩ := a3
        refine ⟨Or.inr (Or.inr ⟨h1, by omega, ?_⟩), by rw [j1]; decide⟩
        rw [hw, hh2, hd2, hc2, hr]
        exact ⟨by show some (h.w, h.h, aY d) = _; rw [j2, i1.2.1, i1.2.2.1], j1⟩
     exact ⟨key.2, hgood _ _ key.1⟩
   · obtain ⟨w1, w2⟩ := hsz H r g b q en i4
     have e5 := z1.mw
     have e6 := z1.mh
     have e7 := z1.mb
     have e8 := z1.mx
     have f5 := q1.mw
     have f6 := q1.mh
     have hw60 : W ≤ 60 := by have := i1.2.1; omega
     have hh60 : HH ≤ 60 := by have := i1.2.2.1; omega
     have hWH : W * HH ≤ 60 * 60 := Nat.mul_le_mul hw60 hh60
     have hH2 : HH * (2 * W + 1) ≤ 60 * 121 := Nat.mul_le_mul hh60 (by omega)
     refine a4 (by omega) (by omega) (by omega) ?_
     unfold bCost
     omega
theorem bmp_run (s : ByteArray) (hs : s.size ≤ 100000) (mw mh mb mk : Int) (h1 : mb ≤ 9223372036854775807) (h2 : mk ≤ 9223372036854775807) (w : World) :
 Calls Tryz.prog 7 #[.string s, .agg #[J I mw, J I mh, J I mb, J I mk], .func (.func 8) #[] #[]] w (RunEnd (fun _ _ m o t => DecAll s (Led.new mw mh mb mk) m o t) w) :=
 run_any s mw mh mb mk _ w (by omega) h1 h2 fun X L w0 h0 => (dec_calls X L ⟨L, s, 0, s.size, 0⟩ (Led.new mw mh mb mk) w0 h0 rfl rfl rfl hs rfl rfl).mono fun e w' ⟨y, m, o, t, p1, p2, p3, p4, p5⟩ =>
  ⟨y, m, o, t, p1, p2, p3, dec_all h0.src.ok rfl rfl rfl hs h0.led.ok rfl rfl p4, p5⟩
theorem u8s_inj {d d' : List Int} (h : aY d = aY d') : d = d' := by
 unfold aY at h
 exact List.map_inj_right (fun a b e => by injection e) |>.1 h
theorem runs_same {s : ByteArray} {l l' m m' : Led} {o o' : Option (Int × Int × List Int)} {t t' : Int × Int} (h : DecAll s l m o t) (h' : DecAll s l' m' o' t') (hb : m.br = false) (hb' : m'.br = false) : o = o' ∧ t = t' := by
 obtain ⟨h1, h2⟩ := refDec_one (h.yes hb).2 (h'.yes hb').2
 refine ⟨?_, h2⟩
 cases o with
 | none => cases o' with
   | none => rfl
   | some q => cases h1
 | some q =>
   cases o' with
   | none => cases h1
   | some q' =>
     have e := Option.some.inj h1
     obtain ⟨a, b, d⟩ := q
     obtain ⟨a', b', d'⟩ := q'
     have e1 : a = a' := congrArg (·.1) e
     have e2 : b = b' := congrArg (·.2.1) e
     have e3 : aY d = aY d' := congrArg (·.2.2) e
     rw [e1, e2, u8s_inj e3]
theorem range_heap {w w' : World} {g o : Nat} {L : List Value} (h : w.rangeAt g o L) (e : w'.heap[g]? = w.heap[g]?) : w'.rangeAt g o L := fun j v hv => (World.cell?_of_block (w := w) e).trans (h j v hv)
theorem s58_size : s58.size = 58 := by decide +kernel
theorem ref58 : RefDec s58 (some (1, 1, [J U 255, J U 255, J U 255, J U 255])) (0, 0) := by
 refine Or.inr ⟨by rw [s58_size]; decide, Or.inr ⟨by decide +kernel, Or.inr ⟨by decide +kernel, Or.inr ⟨ao (s58.extract 14 54), 0, 0, 0, 0, 54, by kernel_rfl, Or.inr (Or.inr ⟨by decide +kernel, by decide +kernel, ?_⟩)⟩⟩⟩⟩
 rw [show bRef s58 s58.size 54 (kdOf (ao (s58.extract 14 54)).sz) (ao (s58.extract 14 54)).w.toNat (ao (s58.extract 14 54)).h.toNat (ao (s58.extract 14 54)).dp.toNat (ao (s58.extract 14 54)).co.toNat (ao (s58.extract 14 54)).top (ao (s58.extract 14 54)).mt 0 0 0 0 (aC s58 10 4).toNat = .ok [J U 255, J U 255, J U 255, J U 255] by kernel_rfl]
 exact ⟨by kernel_rfl, rfl⟩
theorem rich58 (H : Hd) (r g b q : Int) (en : Nat) (h : aZ s58 14 = rOk H r g b q 14 en) : H.w ≤ 60 ∧ H.h ≤ 60 := by
 have e : aZ s58 14 = rOk (ao (s58.extract 14 54)) 0 0 0 0 14 54 := by kernel_rfl
 obtain ⟨⟨e1, e2, e3, _⟩, _⟩ := rok_inj (h.symm.trans e)
 have e4 : (ao (s58.extract 14 54)).w = 1 := by decide +kernel
 have e5 : (ao (s58.extract 14 54)).h = 1 := by decide +kernel
 omega
theorem run58 (w : World) : Calls Tryz.prog 7 #[.string s58, .agg #[J I 16384, J I 16384, J I 262144, J I 1048576], .func (.func 8) #[] #[]] w fun e w' =>
 ∃ L g, e = .returned (.tuple #[.agg #[J I 1, J I 1, .slice (some ⟨g, 0, none⟩) 4 4], .agg #[J I 0, J I 0, J I 0], Y (some ⟨L, 0, none⟩)]) ∧ w'.rangeAt g 0 (aY [255, 255, 255, 255]) ∧ Below w.heap.size w w' := by
 refine (bmp_run s58 (by rw [s58_size]; decide) 16384 16384 262144 1048576 (by decide) (by decide) w).mono ?_
 rintro e w' ⟨L, y, m, o, t, hl, hL, hb, hD, he⟩
 have hbr := hD.rich rich58 (by decide) (by decide) (by decide) (by rw [s58_size]; decide) (by decide)
 obtain ⟨h1, h2⟩ := refDec_one (hD.yes hbr).2 ref58
 subst h2
 cases o with
 | none => cases h1
 | some q =>
   obtain ⟨W, H, d⟩ := q
   have e := Option.some.inj h1
   have e1 : W = 1 := congrArg (·.1) e
   have e2 : H = 1 := congrArg (·.2.1) e
   have e3 : aY d = aY [255, 255, 255, 255] := congrArg (·.2.2) e
   have e4 := u8s_inj e3
   subst e1 e2 e4
   obtain ⟨g, he, hg, hg2⟩ := he
   exact ⟨L, g, he, hg.range0, hb⟩
theorem awake23 (w : World) : Calls Tryz.prog 5 #[] w fun e w' => e = .returned (.bool true) ∧ Below w.heap.size w w' := by
 have HW := Hi (fun G w0 h0 => write1 G w0 h0)
 have HI := Hi (fun w0 => wide_any w0)
 have HR := Hi (fun w0 => run58 w0)
 have OG := Hi (aA w #[J U 255, J U 255, J U 255, J U 255] 5)
 have BL := Hi ((Below.refl w.heap.size w).alloc (Nat.le_refl _) (.cells #[J U 255, J U 255, J U 255, J U 255] 5))
 have HSZ := Hi s58_size
 obtain ⟨s, hs⟩ : ∃ s, s58 = s := ⟨_, rfl⟩
 rw [hs] at HW HR HSZ
 clear hs
 have hz : (s.size : Int) = 58 := by rw [HSZ.out]; rfl
 go_enter Tryz.func5, Tryz.ntmps5
 go_upto_region 2 with ((go_at_call 18; (with_reducible refine (HW.out _ _ OG.out).mono ?_); rintro e w1 ⟨rfl, hb⟩); have BL := Hi (BL.out.trans (hb.mono BL.out.size)); clear hb)
 go_upto_region 3 with (first
  | ((go_at_call 14; (with_reducible refine (HI.out _).mono ?_); rintro e w2 ⟨rfl, hb⟩); have BL := Hi (BL.out.trans (hb.mono BL.out.size)); clear hb)
  | ((go_at_call 7; (with_reducible refine (HR.out _).mono ?_); rintro e w3 ⟨L, g, rfl, hR, hb⟩); have BL := Hi (BL.out.trans (hb.mono BL.out.size)); clear hb
     have HRG := Hi hR
     have lg : g < w3.heap.size := by
      have := hR 0 _ rfl
      exact World.block_lt_of_cell? _ _ this
     have bl3 := BL.out.size
     have OM := Hi ((aA w3 #[J I 0, J I 0, .slice none 0 0] 29).alloc (.cells #[J I 0, J I 0, J I 0] 31))
     have OF := Hi (aA (w3.alloc (.cells #[J I 0, J I 0, .slice none 0 0] 29)) #[J I 0, J I 0, J I 0] 31)
     have HRG := Hi (range_below HRG.out (((Below.refl w3.heap.size w3).alloc (Nat.le_refl _) (.cells #[J I 0, J I 0, .slice none 0 0] 29)).alloc (by simp) (.cells #[J I 0, J I 0, J I 0] 31)) lg)
     have BL := Hi ((BL.out.alloc BL.out.size (.cells #[J I 0, J I 0, .slice none 0 0] 29)).alloc (Nat.le_trans BL.out.size (by simp)) (.cells #[J I 0, J I 0, J I 0] 31))
     have zz := BL.out.size
     obtain ⟨d, hd⟩ : ∃ d, w3.heap.size = d := ⟨_, rfl⟩
     have HDz := Hi (show w.heap.size ≤ d from by rw [← hd]; exact bl3)
     rw [show (w3.alloc (.cells #[J I 0, J I 0, .slice none 0 0] 29)).heap.size = d + 1 by rw [← hd]; simp] at OF
     rw [hd] at OM lg
     clear hR zz bl3)
  | (refine so 29 3 (d) [J I 1, J I 1, .slice (some ⟨g, 0, none⟩) 4 4] OM.out ?_; intro w4 hst hO; have OM := Hi hO; have OF := Hi (hst.oth OF.out (by omega)); have HRG := Hi (range_heap HRG.out (hst.heap (by omega))); have BL := Hi (hst.below BL.out (by have := HDz.out; omega)); clear hst hO)
  | (refine so 31 3 (d + 1) [J I 0, J I 0, J I 0] OF.out ?_; intro w5 hst hO; have OF := Hi hO; have OM := Hi (hst.oth OM.out (by omega)); have HRG := Hi (range_heap HRG.out (hst.heap (by omega))); have BL := Hi (hst.below BL.out (by have := HDz.out; omega)); clear hst hO))
 have hcv := range_string (P := Tryz.prog) HRG.out 4 4 rfl 27 9 5 Tryz.underlying27 Tryz.underlying5 Tryz.underlying9
 have c2 := (OM.out.cell 2).trans (show _ = some (.slice (some ⟨g, 0, none⟩) 4 4) from rfl)
 go_wp2_with (refine aL (by kernel_rfl) 31 3 _ rfl (d + 1) [J I 0, J I 0, J I 0] rfl rfl OF.out Tryz.underlying31 rfl (by kernel_rfl) ?_; intro _)
 go_ret
 exact ⟨by kernel_rfl, BL.out⟩
theorem rsides_at (s : ByteArray) (sz W H : Int) (top : Bool) (dp mt co r g b q fr en ft pl : Int) (w : World) (h14 : 14 ≤ s.size) (hs : s.size ≤ 9223372036854775807) (hR : aZ s 14 = [J I sz, J I W, J I H, .bool top, J I dp, J I mt, J I co, J I r, J I g, J I b, J I q, J I fr, J I en, J I ft, J I pl]) :
 Calls Tryz.prog 6 #[.string s] w fun e w' => e = .returned (.tuple #[J I W, J I H, J I (if dp > 8 then 0 else co)]) ∧ Below w.heap.size w w' := by
 have HRD := Hi (fun w0 => (show Calls Tryz.prog 19 #[.string s, J I 14, J I s.size] w0 (RA w0 [J I sz, J I W, J I H, .bool top, J I dp, J I mt, J I co, J I r, J I g, J I b, J I q, J I fr, J I en, J I ft, J I pl]) by
  have := rread20_any s 14 w0 (by omega) (by omega) hs
  rw [hR] at this
  exact this))
 have t0 : decide ((s.size : Int) < 14) = false := by rw [decide_eq_false_iff_not]; omega
 obtain ⟨C, hC⟩ : ∃ C : Int, (if dp > 8 then 0 else co) = C := ⟨_, rfl⟩
 rw [hC]
 have HC := Hi hC
 clear hR h14 hs hC
 go_enter Tryz.func6, Tryz.ntmps6
 go_upto_region 1 with (fail)
 go_wp2_with (fail)
 with_reducible refine (HRD.out _).mono ?_
 rintro e w1 ⟨rfl, hb⟩
 have BL := Hi (hb.alloc hb.size (.cells #[J I 0, J I 0, J I 0, .bool false, J I 0, J I 0, J I 0, J I 0, J I 0, J I 0, J I 0, J I 0, J I 0, J I 0, J I 0] 46))
 obtain ⟨d, hd⟩ : ∃ d, w1.heap.size = d := ⟨_, rfl⟩
 have O5 := Hi (aA w1 #[J I 0, J I 0, J I 0, .bool false, J I 0, J I 0, J I 0, J I 0, J I 0, J I 0, J I 0, J I 0, J I 0, J I 0, J I 0] 46)
 rw [hd] at O5
 have LB := Hi (show w.heap.size ≤ d from hd ▸ hb.size)
 clear hb
 go_upto_region 4 with (refine so 46 15 d [J I sz, J I W, J I H, .bool top, J I dp, J I mt, J I co, J I r, J I g, J I b, J I q, J I fr, J I en, J I ft, J I pl] O5.out ?_; intro ws hst hO; have O5 := Hi hO; have BL := Hi (hst.below BL.out LB.out); clear hst hO)
 clear hd
 have c1 := (O5.out.cell 1).trans (show _ = some (J I W) from rfl)
 have c2 := (O5.out.cell 2).trans (show _ = some (J I H) from rfl)
 have c4 := (O5.out.cell 4).trans (show _ = some (J I dp) from rfl)
 have c6 := (O5.out.cell 6).trans (show _ = some (J I co) from rfl)
 by_cases h8 : dp > 8
 · have t1 : decide (dp > 8) = true := by rw [decide_eq_true_iff]; exact h8
   have E := Hi (show C = (0 : Int) by rw [← HC.out, if_pos h8])
   clear h8
   go_upto_region 5 with (fail)
   go_quiet (fail)
   go_wp2
   refine bodyPost_ret (v := .tuple #[J I W, J I H, J I 0]) (by simp [results, Tryz.results6, go_sem]) rfl ⟨by rw [E.out], bdrew BL.out _⟩
 have t1 : decide (dp > 8) = false := by rw [decide_eq_false_iff_not]; exact h8
 have E := Hi (show C = co by rw [← HC.out, if_neg h8])
 clear h8
 go_upto_region 6 with (fail)
 go_quiet (fail)
 go_wp2
 refine bodyPost_ret (v := .tuple #[J I W, J I H, J I co]) (by simp [results, Tryz.results6, go_sem]) rfl ⟨by rw [E.out], bdrew BL.out _⟩
theorem rsides_no (s : ByteArray) (w : World) (h14 : s.size < 14) : Calls Tryz.prog 6 #[.string s] w fun e w' => e = .returned (.tuple #[J I 0, J I 0, J I 0]) ∧ Below w.heap.size w w' := by
 have t0 : decide ((s.size : Int) < 14) = true := by rw [decide_eq_true_iff]; omega
 clear h14
 go_enter Tryz.func6, Tryz.ntmps6
 go_wp2
 refine bodyPost_ret (v := .tuple #[J I 0, J I 0, J I 0]) (by simp [results, Tryz.results6, go_sem]) rfl ⟨rfl, ?_⟩
 exact Below.refl _ _
def S23 (s : ByteArray) (W H C : Int) : Prop :=
 (s.size < 14 ∧ W = 0 ∧ H = 0 ∧ C = 0) ∨ (14 ≤ s.size ∧ ((∃ k a : Int, k ≠ 0 ∧ aZ s 14 = aN k a ∧ W = 0 ∧ H = 0 ∧ C = 0) ∨
   (∃ (a : Hd) (r g b q en : Int), aZ s 14 = rOk a r g b q 14 en ∧ W = a.w ∧ H = a.h ∧ C = (if a.dp > 8 then 0 else a.co))))
theorem rsides_any (s : ByteArray) (hs : s.size ≤ 100000) : ∃ W H C : Int, S23 s W H C ∧ ∀ w, Calls Tryz.prog 6 #[.string s] w fun e w' => e = .returned (.tuple #[J I W, J I H, J I C]) ∧ Below w.heap.size w w' := by
 by_cases h : s.size < 14
 · exact ⟨0, 0, 0, Or.inl ⟨h, rfl, rfl, rfl⟩, fun w => rsides_no s w h⟩
 have h14 : 14 ≤ s.size := by omega
 rcases dib_eq (⟨0, s, 0, s.size, 14⟩ : Sr) (Led.new 0 0 0 9) 1 ⟨Nat.zero_le _, h14, Nat.le_refl _, by show s.size ≤ _; omega⟩ rfl hs rfl (by show (0 : Int) + 3 ≤ _; decide) with ⟨k, a, hk, hr, -⟩ | ⟨a, m, r, g, b, q, en, -, hr, -⟩
 · have hr : aZ s 14 = aN k a := hr
   exact ⟨0, 0, 0, Or.inr ⟨h14, Or.inl ⟨k, a, hk, hr, rfl, rfl, rfl⟩⟩, fun w => rsides_at s 0 0 0 false 0 0 0 0 0 0 0 0 0 k a w h14 (by omega) hr⟩
 · have hr : aZ s 14 = rOk a r g b q 14 en := hr
   exact ⟨a.w, a.h, _, Or.inr ⟨h14, Or.inr ⟨a, r, g, b, q, en, hr, rfl, rfl, rfl⟩⟩, fun w => rsides_at s a.sz a.w a.h a.top a.dp a.mt a.co r g b q 14 en 0 0 w h14 (by omega) hr⟩
def imV (o : Option (Int × Int × List Int)) (g : Nat) : List Value := match o with
 | none => [J I 0, J I 0, .slice none 0 0]
 | some (W, H, d) => [J I W.toNat, J I H.toNat, .slice (some ⟨g, 0, none⟩) d.length d.length]
theorem imV_len (o : Option (Int × Int × List Int)) (g : Nat) : (imV o g).length = 3 := by unfold imV; split <;> rfl
theorem imV_one (o : Option (Int × Int × List Int)) (g : Nat) : (imV o g).all (·.oneCell') = true := by unfold imV; split <;> rfl
def ImAt (w : World) (o : Option (Int × Int × List Int)) (g : Nat) : Prop := ∀ W H d, o = some (W, H, d) → w.rangeAt g 0 (aY d) ∧ g < w.heap.size
theorem ImAt.heap {w w' : World} {o : Option (Int × Int × List Int)} {g : Nat} {S : Nat → Prop} (h : ImAt w o g) (hc : Chg S w w') (hS : o ≠ none → ¬ S g) : ImAt w' o g := fun W H d e => by
 obtain ⟨h1, h2⟩ := h W H d e
 exact ⟨range_heap h1 (hc.block _ h2 (hS (by rw [e]; exact fun h => by cases h))), Nat.lt_of_lt_of_le h2 hc.size⟩
theorem ImAt.below {w w' : World} {o : Option (Int × Int × List Int)} {g : Nat} (h : ImAt w o g) (hb : Below w.heap.size w w') : ImAt w' o g := h.heap (aB hb (fun _ => False)) (fun _ h => h)
theorem ImAt.into {w w' : World} {o : Option (Int × Int × List Int)} {g b k : Nat} {vs : List Value} {B : Nat} (h : ImAt w o g) (hB : o ≠ none → g < B) (hst : Stored w b k vs w') (hb : B ≤ b) : ImAt w' o g := fun W H d e => by
 obtain ⟨h1, h2⟩ := h W H d e
 have := hB (by rw [e]; exact fun h => by cases h)
 exact ⟨range_heap h1 (hst.heap (by omega)), by rw [hst.size]; exact h2⟩
theorem ImAt.lt {w : World} {o : Option (Int × Int × List Int)} {g : Nat} (h : ImAt w o g) : o ≠ none → g < w.heap.size := fun hn => by
 cases o with
 | none => exact absurd rfl hn
 | some q => exact (h q.1 q.2.1 q.2.2 rfl).2
theorem refDec_some {s : ByteArray} {q : Int × Int × List Value} {t : Int × Int} (h : RefDec s (some q) t) : t = (0, 0) := by
 rcases h with ⟨_, h, _⟩ | ⟨_, ⟨_, h, _⟩ | ⟨_, ⟨_, h, _⟩ | ⟨_, ⟨_, _, _, _, h, _⟩ | ⟨H, r, g, b, q, en, _, ⟨_, h, _⟩ | ⟨_, _, h, _⟩ | ⟨_, _, h⟩⟩⟩⟩⟩
 · cases h
 · cases h
 · cases h
 · cases h
 · cases h
 · cases h
 · split at h
   · cases h.1
   · exact h.2
def RunU (s : ByteArray) (l : Led) (w : World) (e : Ending) (w' : World) : Prop :=
 ∃ (L : Nat) (m : Led) (o : Option (Int × Int × List Int)) (k fm p : Int) (g : Nat), e = .returned (.tuple #[.agg (imV o g).toArray, .agg #[J I k, J I fm, J I p], Y (some ⟨L, 0, none⟩)]) ∧ LedAt w' L m ∧ L < w'.heap.size ∧ w.heap.size ≤ L ∧ Below w.heap.size w w' ∧ DecAll s l m o (k, p) ∧ ImAt w' o g ∧ fm = (if k = 0 then 0 else 1) ∧ (o ≠ none → w.heap.size ≤ g)
theorem run_u (s : ByteArray) (hs : s.size ≤ 100000) (mw mh mb mk : Int) (h1 : mb ≤ 9223372036854775807) (h2 : mk ≤ 9223372036854775807) (w : World) :
 Calls Tryz.prog 7 #[.string s, .agg #[J I mw, J I mh, J I mb, J I mk], .func (.func 8) #[] #[]] w (RunU s (Led.new mw mh mb mk) w) := by
 refine (bmp_run s hs mw mh mb mk h1 h2 w).mono ?_
 rintro e w' ⟨L, y, m, o, ⟨k, p⟩, hl, hL, hb, hD, he⟩
 cases o with
 | none => exact ⟨L, m, none, k, _, p, 0, he, hl, hl.lt, hL, hb, hD, (fun _ _ _ h => by cases h), rfl, fun h => absurd rfl h⟩
 | some q =>
   obtain ⟨W, H, d⟩ := q
   obtain ⟨g, he, hg, hg2⟩ := he
   have hbr : m.br = false := by
    cases hh : m.br with
    | false => rfl
    | true => have := (hD.no hh).2.2.2.2; cases this
   have ht : (k, p) = ((0 : Int), (0 : Int)) := refDec_some (hD.yes hbr).2
   have e1 : k = 0 := congrArg (·.1) ht
   have e2 : p = 0 := congrArg (·.2) ht
   subst e1 e2
   exact ⟨L, m, some (W, H, d), 0, 0, 0, g, he, hl, hl.lt, hL, hb, hD, (fun W' H' d' e => by cases e; exact ⟨hg.range0, hg.lt⟩), rfl, fun _ => hg2⟩
theorem lpeak_any (L : Nat) (s : Led) (w : World) (h : LedAt w L s) : Calls Tryz.prog 9 #[Y (some ⟨L, 0, none⟩)] w fun e w' => e = .returned (J I s.pk) ∧ w = w' := by
 have HL := Hi (aload64 L 5 s.pk w ((h.obj.cell 5).trans rfl))
 clear h
 go_enter Tryz.func9, Tryz.ntmps9
 go_wp2_with (go_at_call 30; (with_reducible refine (HL.out).mono ?_); rintro e w1 ⟨rfl, rfl⟩)
 go_ret
 exact ⟨rfl, rfl⟩
theorem conv_nil (w : World) : (convert 27 9 (.slice none 0 0)).run Tryz.prog w = .ok (.string .empty) w :=
 (run_convert_bytes_string w _ _ _ none 0 0 Tryz.underlying27 Tryz.underlying5 Tryz.underlying9).trans rfl
theorem beq_z (w : World) : Calls Tryz.prog 32 #[.slice none 0 0, .slice none 0 0] w fun e w' => e = .returned (.bool true) ∧ w' = w := by
 have hv := conv_nil w
 go_enter Tryz.func32, Tryz.ntmps32
 go_wp2
 go_ret
 exact ⟨rfl, rfl⟩
theorem rassame_z (w : World) : Calls Tryz.prog 13 #[.agg #[J I 0, J I 0, .slice none 0 0], .agg #[J I 0, J I 0, .slice none 0 0]] w fun e w' => e = .returned (.bool true) ∧ Below w.heap.size w w' := by
 have BL := Hi (((Below.refl w.heap.size w).alloc (Nat.le_refl _) (.cells #[J I 0, J I 0, .slice none 0 0] 29)).alloc (by simp) (.cells #[J I 0, J I 0, .slice none 0 0] 29))
 have HE := Hi (beq_z ((w.alloc (.cells #[J I 0, J I 0, .slice none 0 0] 29)).alloc (.cells #[J I 0, J I 0, .slice none 0 0] 29)))
 go_enter Tryz.func13, Tryz.ntmps13
 go_wp2_with (go_at_call 32; (with_reducible refine (HE.out).mono ?_); rintro e w1 ⟨rfl, rfl⟩)
 go_ret
 exact ⟨rfl, BL.out⟩
theorem same07_z (w : World) : Calls Tryz.prog 15 #[.agg #[J I 0, J I 0, .slice none 0 0], .agg #[J I 0, J I 0, .slice none 0 0]] w fun e w' => e = .returned (.bool true) ∧ Below w.heap.size w w' := by
 have BL := Hi (((Below.refl w.heap.size w).alloc (Nat.le_refl _) (.cells #[J I 0, J I 0, .slice none 0 0] 29)).alloc (by simp) (.cells #[J I 0, J I 0, .slice none 0 0] 29))
 have hv := conv_nil ((w.alloc (.cells #[J I 0, J I 0, .slice none 0 0] 29)).alloc (.cells #[J I 0, J I 0, .slice none 0 0] 29))
 go_enter Tryz.func15, Tryz.ntmps15
 go_wp2
 go_ret
 exact ⟨rfl, BL.out⟩
theorem same07_im (o : Option (Int × Int × List Int)) (g g' : Nat) (w : World) (h : ImAt w o g) (h' : ImAt w o g') : Calls Tryz.prog 15 #[.agg (imV o g).toArray, .agg (imV o g').toArray] w fun e w' => e = .returned (.bool true) ∧ Below w.heap.size w w' := by
 cases o with
 | none => exact same07_z w
 | some q =>
   obtain ⟨W, H, d⟩ := q
   obtain ⟨h1, h2⟩ := h W H d rfl
   obtain ⟨h3, h4⟩ := h' W H d rfl
   exact same07_any W.toNat H.toNat g d.length g' d.length d.length d w h1 h3 rfl h2 h4
end Go.Proofs.YtfchnibjjokmbaaGreat

/- Parts. -/
import Derived.Test.YtfchnibjjokmbaaGreatK2
set_option linter.all false
set_option maxRecDepth 100000
set_option maxHeartbeats 16000000
open Go.Value renaming int → J, pointer → Y
open Go.IntKind renaming i64 → I, u8 → U
namespace Go.Proofs.YtfchnibjjokmbaaGreat
open Go.RowKit
theorem aa {P : Program} {fn : Func} {p q : Tmp} {ty : TypeId} (h : fn.results = #[.tmp p, .cell q ty]) (tmps : Array Value) (w : World) (b : Nat) (cs : List Value) (d : TypeDesc)
 (hq : tmps.getD q undef = Y (some ⟨b, 0, none⟩)) (R : w.rangeAt b 0 cs) (hu : P.underlying ty = some d) (hd : d.isRow = true) (hi : (P.info? ty).map (·.size) = some cs.length) :
 (results fn tmps).run P w = .ok (.tuple #[tmps.getD p undef, .agg cs.toArray]) w := by
 have hq' : tmps[q]?.getD undef = Y (some ⟨b, 0, none⟩) := by simpa using hq
 simp [results, h, hq', asAddr, run_loadVar_mid w b 0 ty cs d R hu hd hi]
def ac (x : Sr) (l : Led) (f : Int) : (ByteArray × List Value) × (Sr × Led) :=
 if (x.next l 4).2.2 = false then ((ByteArray.empty, aK (x.next l 4).1.1 (x.next l 4).1.2 f), (x.next l 4).1) else
 if aU (aC (x.next l 4).2.1 0 4) = false then ((ByteArray.empty, [J I (if knownH (aC (x.next l 4).2.1 0 4) = true then 3 else 2), J I f, J I x.p]), (x.next l 4).1) else
 if ((x.next l 4).1.1.next (x.next l 4).1.2 (aC (x.next l 4).2.1 0 4 - 4)).2.2 = false then ((ByteArray.empty, aK ((x.next l 4).1.1.next (x.next l 4).1.2 (aC (x.next l 4).2.1 0 4 - 4)).1.1 ((x.next l 4).1.1.next (x.next l 4).1.2 (aC (x.next l 4).2.1 0 4 - 4)).1.2 f), ((x.next l 4).1.1.next (x.next l 4).1.2 (aC (x.next l 4).2.1 0 4 - 4)).1) else
 (((x.next l 4).2.1 ++ ((x.next l 4).1.1.next (x.next l 4).1.2 (aC (x.next l 4).2.1 0 4 - 4)).2.1, [J I 0, J I 0, J I 0]), ((x.next l 4).1.1.next (x.next l 4).1.2 (aC (x.next l 4).2.1 0 4 - 4)).1)
def TkPost (w : World) (X : Nat) (x : Sr) (R : (ByteArray × List Value) × (Sr × Led)) (e : Ending) (w' : World) : Prop := e = .returned (.tuple #[.string R.1.1, .agg R.1.2.toArray]) ∧ Pair w' X R.2.1 R.2.2 ∧ Chg (two X x) w w'
theorem hlow_v (s : ByteArray) (a n : Nat) (i k V : Int) (w : World) (hi : i = a) (hk : k = n) (hV : aC s a n = V) (hn : n ≤ 4) (h : a + n ≤ s.size) (hs : s.size ≤ 9223372036854775807) : Calls Tryz.prog 97 #[.string s, J I i, J I k] w fun e w' => e = .returned (J I V) ∧ w' = w := by
 subst hi hk hV; exact hlow_any s a n w hn h hs
theorem heads_le {n : Int} (h : aU n = true) : 12 ≤ n ∧ n ≤ 124 := by
 unfold aU at h; simp at h; omega
theorem htake_any (X : Nat) (x : Sr) (l : Led) (f : Int) (w : World) (h : Pair w X x l) : Calls Tryz.prog 59 #[Y (some ⟨X, 0, none⟩), J I f] w (TkPost w X x (ac x l f)) := by
 obtain ⟨RS, hRS⟩ : ∃ r, ac x l f = r := ⟨_, rfl⟩
 have E0 := hRS
 unfold ac at E0
 unfold TkPost
 rw [hRS]
 clear hRS
 have hpe := h.src.ok.pe
 have hps := h.src.ok.es
 have hpz := h.src.ok.sz
 have lX := h.src.lt
 have lL := h.led.lt
 have O5 := Hi (aA w #[J I 0, J I 0, J I 0] 31)
 have PX := Hi (h.alloc (.cells #[J I 0, J I 0, J I 0] 31))
 have CH := Hi ((Chg.refl (two X x) w).alloc (.cells #[J I 0, J I 0, J I 0] 31))
 have HAT := Hi (fun w0 hp => at_any X x w0 hp)
 have hLy := next_L x l 4
 have hno := fun ho => next_ok (x := x) (l := l) (n := 4) ho
 have H1 := Hi (fun w0 hp => take_any X x l 4 w0 hp)
 obtain ⟨⟨⟨y, m⟩, ⟨b, ok⟩⟩, hr⟩ : ∃ r, x.next l 4 = r := ⟨_, rfl⟩
 rw [hr] at E0 hLy hno H1
 simp only at E0 hLy hno
 clear h hr
 go_enter Tryz.func59, Tryz.ntmps59
 go_upto_region 1 with (fail)
 generalize World.alloc _ _ = w1 at O5 PX CH ⊢
 go_upto_region 2 with ((go_at_call 23; (with_reducible refine (HAT.out _ PX.out.src).mono ?_); rintro e w2 ⟨rfl, rfl⟩))
 go_wp2_with fail
 refine (H1.out _ PX.out).mono ?_
 rintro e w2 ⟨rfl, hP, hC⟩
 have O5 := Hi (hC.obj O5.out (by unfold two; omega))
 have PX := Hi hP
 have CH := Hi (CH.out.trans (hC.mono fun k _ hk => by unfold two at hk ⊢; first | exact hk | (rw [← hyL]; exact hk)))
 have zz := CH.out.size
 clear hP hC
 have hyL := hLy
 cases ok
 · rw [if_pos rfl] at E0
   obtain ⟨F, hF⟩ : ∃ F, aK y m f = F := ⟨_, rfl⟩
   have HF := Hi (fun w0 hp => fault_c X y m f w0 F hF hp)
   have FL : F.length = 3 := by rw [← hF]; exact aV _ _ _
   have FO : F.all (·.oneCell') = true := by rw [← hF]; exact faultL_one _ _ _
   have ER := Hi (show RS = ((ByteArray.empty, F), (y, m)) by rw [← hF]; exact E0.symm)
   clear E0
   have FI : (Tryz.prog.info? 31).map (·.size) = some F.length := by rw [FL]; kernel_rfl
   clear hF
   go_wp2_with (first
    | ((go_at_call 37; (with_reducible refine (HF.out _ PX.out).mono ?_); rintro e wc ⟨rfl, hb⟩); have O5 := Hi (O5.out.below hb O5.out.lt); have PX := Hi (PX.out.upon hb PX.out.src.lt PX.out.led.lt); have CH := Hi (CH.out.trans (aB hb _)); clear hb)
    | (refine store_o rfl 31 3 _ _ rfl w.heap.size F FL FO (by kernel_rfl) (by kernel_rfl) (by kernel_rfl) O5.out (by first | rfl | simp) ?_; intro ws hst hO; have O5 := Hi hO; have PX := Hi (PX.out.into hst (by omega) (by omega)); have CH := Hi (hst.chg CH.out (by omega)); clear hst hO))
   refine bodyPost_ret (v := .tuple #[.string ByteArray.empty, .agg (List.toArray F)]) ?_ rfl ⟨by rw [ER.out], by rw [ER.out]; exact PX.out, CH.out⟩
   exact aa Tryz.results59 _ _ _ F _ rfl O5.out.range0 Tryz.underlying31 rfl FI
 rw [if_neg (by decide)] at E0
 obtain ⟨-, -, hn4, hy, -, hb⟩ := hno rfl
 have hb4 : b.size = 4 := by rw [hb, ByteArray.size_extract]; omega
 have hye : y.e = x.e := by rw [hy]
 clear hno hb hy
 obtain ⟨n, hn⟩ : ∃ n, aC b 0 4 = n := ⟨_, rfl⟩
 have HN := Hi (fun w0 => hlow_v b 0 4 0 4 n w0 rfl rfl hn (by omega) (by omega) (by omega))
 have HK := Hi (fun w0 => known_any n w0)
 have HH := Hi (fun w0 => heads_any n w0)
 rw [hn] at E0
 obtain ⟨hd, hhd⟩ : ∃ b, aU n = b := ⟨_, rfl⟩
 obtain ⟨kn, hkn⟩ : ∃ b, knownH n = b := ⟨_, rfl⟩
 have hkd : hd = true → kn = true := by intro h1; rw [← hkn]; unfold knownH; rw [hhd, h1]; rfl
 have hhl := fun (h1 : hd = true) => heads_le (hhd.trans h1)
 rw [hkn] at HK
 rw [hhd] at HH
 rw [hhd, hkn] at E0
 clear hn hhd hkn
 have h1w := PX.out.src.lt
 cases hd
 · rw [if_pos rfl] at E0
   cases kn
   · have ER := Hi (show RS = ((ByteArray.empty, [J I 2, J I f, J I x.p]), (y, m)) from E0.symm)
     clear E0 hkd hhl
     have HFI := Hi (fun (w0 : World) (B : Nat) (ho : Obj1 w0 B (List.toArray [.bool false, J I 3, J I 0, .bool true, J I 2, J I 0]) 134) => (show Calls Tryz.prog 62 #[.slice (some ⟨B, 0, none⟩) (2 : Nat) 2] w0 (fun e w' => e = .returned (.tuple #[.agg #[.bool true, J I 2, J I 0], .bool true]) ∧ Below w0.heap.size w0 w') from first_any [(false, 3, 0), (true, 2, 0)] 2 B 2 w0 rfl (by decide) ho.lt ho.range0))
     go_upto_region 8 with (first
      | ((with_reducible refine aE rfl ?_ ?_); rfl; intro _)
      | ((go_at_call 97; (with_reducible refine (HN.out _).mono ?_); rintro e wc ⟨rfl, rfl⟩))
      | ((go_at_call 98; (with_reducible refine (HK.out _).mono ?_); rintro e wc ⟨rfl, rfl⟩))
      | ((go_at_call 99; (with_reducible refine (HH.out _).mono ?_); rintro e wc ⟨rfl, rfl⟩))
      | ((go_at_call 62; (with_reducible refine (HFI.out _ _ (aA _ _ _)).mono ?_); rintro e wf ⟨rfl, hb⟩); have hb := (((Below.refl _ _).alloc (Nat.le_refl _) (.cells (List.toArray [.bool false, J I 3, J I 0, .bool true, J I 2, J I 0]) 134)).trans (hb.mono (by simp))); have O5 := Hi (O5.out.below hb O5.out.lt); have PX := Hi (PX.out.upon hb PX.out.src.lt PX.out.led.lt); have CH := Hi (CH.out.trans (aB hb _)); have lf5 := O5.out.lt; have lfX := PX.out.src.lt; have lfL := PX.out.led.lt; clear hb; have O10 := Hi (aA wf (List.toArray [.bool true, J I 2, J I 0]) 134); have O5 := Hi (O5.out.alloc (.cells (List.toArray [.bool true, J I 2, J I 0]) 134)); have PX := Hi (PX.out.alloc (.cells (List.toArray [.bool true, J I 2, J I 0]) 134)); have CH := Hi (CH.out.alloc (.cells (List.toArray [.bool true, J I 2, J I 0]) 134))))
     refine wp_region_noPanic ?_
     refine wp_region_held_drew (S := fun w' => w'.rangeAt wf.heap.size 0 [.bool true, J I 2, J I 0]) (by kernel_rfl) O10.out.range0 (fun hHeld => ?_)
     refine zt 0 (Y (some ⟨wf.heap.size, 1, none⟩)) rfl hHeld ?_
     refine zt 1 (J I 2) rfl hHeld ?_ (hy := fun wx hS => by have h1 : wx.cell? ⟨wf.heap.size, 1, none⟩ = some (J I 2) := hS 1 _ rfl; go_simp)
     refine zt 2 (J I f) rfl hHeld ?_
     refine zt 3 (J I x.p) rfl hHeld ?_
     refine zt 4 (.agg #[J I 2, J I f, J I x.p]) rfl hHeld ?_
     refine zt 5 (.string ⟨#[]⟩) rfl hHeld ?_
     have O5 := Hi (O5.out.drew)
     have O10 := Hi (O10.out.drew)
     have PX := Hi (PX.out.drew1)
     have CH := Hi CH.out.drew
     generalize World.drew _ = wk at O5 O10 PX CH ⊢
     refine wpAnyH_ready (rs := [6]) (by kernel_rfl) (by simp) ?_
     refine AllReadyH.cons (o := _) rfl (fun K' hK => ?_) AllReadyH.nil
     rw [if_pos (by rfl)]
     refine wp_store_mid 31 _ _ rfl (w.heap.size) 0 (List.toArray [J I 2, J I f, J I x.p]) rfl rfl (O5.out.there 0 3 (by simp)) (by kernel_rfl) (all_oneCell_toArray (List.all_eq_true.1 (by rfl))) ?_
     simp only [Act.put, zq1, zq2, zq3, zq4, zq5, zq6]
     have hst : Stored wk (w.heap.size) 0 [J I 2, J I f, J I x.p] (wk.setCells (w.heap.size) 0 [J I 2, J I f, J I x.p]) := rfl
     have O5 := Hi (hst.whole O5.out (by first | rfl | simp))
     have O10 := Hi (hst.oth O10.out (by omega))
     have PX := Hi (PX.out.into hst (by omega) (by omega))
     have CH := Hi (hst.chg CH.out (by omega))
     generalize World.setCells _ _ _ _ = wk2 at O5 O10 PX CH ⊢
     clear hst
     refine hK _ _ O10.out.range0 (fun hH1 => ?_)
     clear hK K'
     obtain ⟨wk, rfl⟩ : ∃ z, z = wk2 := ⟨_, rfl⟩
     refine wpAnyH_done (by kernel_rfl) ?_ _
     refine NoPanic.normal ?_
     go_wp2_with fail
     refine bodyPost_ret (v := .tuple #[.string ByteArray.empty, .agg (List.toArray [J I 2, J I f, J I x.p])]) ?_ rfl ⟨by rw [ER.out], by rw [ER.out]; exact PX.out, CH.out⟩
     exact aa Tryz.results59 _ _ _ [J I 2, J I f, J I x.p] _ rfl O5.out.range0 Tryz.underlying31 rfl (by kernel_rfl)
   · have ER := Hi (show RS = ((ByteArray.empty, [J I 3, J I f, J I x.p]), (y, m)) from E0.symm)
     clear E0 hkd hhl
     have HFI := Hi (fun (w0 : World) (B : Nat) (ho : Obj1 w0 B (List.toArray [.bool true, J I 3, J I 0, .bool true, J I 2, J I 0]) 134) => (show Calls Tryz.prog 62 #[.slice (some ⟨B, 0, none⟩) (2 : Nat) 2] w0 (fun e w' => e = .returned (.tuple #[.agg #[.bool true, J I 3, J I 0], .bool true]) ∧ Below w0.heap.size w0 w') from first_any [(true, 3, 0), (true, 2, 0)] 2 B 2 w0 rfl (by decide) ho.lt ho.range0))
     go_upto_region 8 with (first
      | ((with_reducible refine aE rfl ?_ ?_); rfl; intro _)
      | ((go_at_call 97; (with_reducible refine (HN.out _).mono ?_); rintro e wc ⟨rfl, rfl⟩))
      | ((go_at_call 98; (with_reducible refine (HK.out _).mono ?_); rintro e wc ⟨rfl, rfl⟩))
      | ((go_at_call 99; (with_reducible refine (HH.out _).mono ?_); rintro e wc ⟨rfl, rfl⟩))
      | ((go_at_call 62; (with_reducible refine (HFI.out _ _ (aA _ _ _)).mono ?_); rintro e wf ⟨rfl, hb⟩); have hb := (((Below.refl _ _).alloc (Nat.le_refl _) (.cells (List.toArray [.bool true, J I 3, J I 0, .bool true, J I 2, J I 0]) 134)).trans (hb.mono (by simp))); have O5 := Hi (O5.out.below hb O5.out.lt); have PX := Hi (PX.out.upon hb PX.out.src.lt PX.out.led.lt); have CH := Hi (CH.out.trans (aB hb _)); have lf5 := O5.out.lt; have lfX := PX.out.src.lt; have lfL := PX.out.led.lt; clear hb; have O10 := Hi (aA wf (List.toArray [.bool true, J I 3, J I 0]) 134); have O5 := Hi (O5.out.alloc (.cells (List.toArray [.bool true, J I 3, J I 0]) 134)); have PX := Hi (PX.out.alloc (.cells (List.toArray [.bool true, J I 3, J I 0]) 134)); have CH := Hi (CH.out.alloc (.cells (List.toArray [.bool true, J I 3, J I 0]) 134))))
     refine wp_region_noPanic ?_
     refine wp_region_held_drew (S := fun w' => w'.rangeAt wf.heap.size 0 [.bool true, J I 3, J I 0]) (by kernel_rfl) O10.out.range0 (fun hHeld => ?_)
     refine zt 0 (Y (some ⟨wf.heap.size, 1, none⟩)) rfl hHeld ?_
     refine zt 1 (J I 3) rfl hHeld ?_ (hy := fun wx hS => by have h1 : wx.cell? ⟨wf.heap.size, 1, none⟩ = some (J I 3) := hS 1 _ rfl; go_simp)
     refine zt 2 (J I f) rfl hHeld ?_
     refine zt 3 (J I x.p) rfl hHeld ?_
     refine zt 4 (.agg #[J I 3, J I f, J I x.p]) rfl hHeld ?_
     refine zt 5 (.string ⟨#[]⟩) rfl hHeld ?_
     have O5 := Hi (O5.out.drew)
     have O10 := Hi (O10.out.drew)
     have PX := Hi (PX.out.drew1)
     have CH := Hi CH.out.drew
     generalize World.drew _ = wk at O5 O10 PX CH ⊢
     refine wpAnyH_ready (rs := [6]) (by kernel_rfl) (by simp) ?_
     refine AllReadyH.cons (o := _) rfl (fun K' hK => ?_) AllReadyH.nil
     rw [if_pos (by rfl)]
     refine wp_store_mid 31 _ _ rfl (w.heap.size) 0 (List.toArray [J I 3, J I f, J I x.p]) rfl rfl (O5.out.there 0 3 (by simp)) (by kernel_rfl) (all_oneCell_toArray (List.all_eq_true.1 (by rfl))) ?_
     simp only [Act.put, zq1, zq2, zq3, zq4, zq5, zq6]
     have hst : Stored wk (w.heap.size) 0 [J I 3, J I f, J I x.p] (wk.setCells (w.heap.size) 0 [J I 3, J I f, J I x.p]) := rfl
     have O5 := Hi (hst.whole O5.out (by first | rfl | simp))
     have O10 := Hi (hst.oth O10.out (by omega))
     have PX := Hi (PX.out.into hst (by omega) (by omega))
     have CH := Hi (hst.chg CH.out (by omega))
     generalize World.setCells _ _ _ _ = wk2 at O5 O10 PX CH ⊢
     clear hst
     refine hK _ _ O10.out.range0 (fun hH1 => ?_)
     clear hK K'
     obtain ⟨wk, rfl⟩ : ∃ z, z = wk2 := ⟨_, rfl⟩
     refine wpAnyH_done (by kernel_rfl) ?_ _
     refine NoPanic.normal ?_
     go_wp2_with fail
     refine bodyPost_ret (v := .tuple #[.string ByteArray.empty, .agg (List.toArray [J I 3, J I f, J I x.p])]) ?_ rfl ⟨by rw [ER.out], by rw [ER.out]; exact PX.out, CH.out⟩
     exact aa Tryz.results59 _ _ _ [J I 3, J I f, J I x.p] _ rfl O5.out.range0 Tryz.underlying31 rfl (by kernel_rfl)
 · obtain ⟨h12, h124⟩ := hhl rfl
   obtain rfl := hkd rfl
   clear hhl hkd
   rw [if_neg (by decide)] at E0
   have eWn : IntKind.i64.wrap (n - 4) = n - 4 := aF _ (by omega) (by omega)
   have eWn' : wrap64 (n - 4) = n - 4 := (IntWalk.i64_left _).symm.trans eWn
   have HFI := Hi (fun (w0 : World) (B : Nat) (ho : Obj1 w0 B (List.toArray [.bool false, J I 3, J I 0, .bool false, J I 2, J I 0]) 134) => (show Calls Tryz.prog 62 #[.slice (some ⟨B, 0, none⟩) (2 : Nat) 2] w0 (fun e w' => e = .returned (.tuple #[.agg #[.bool false, J I 0, J I 0], .bool false]) ∧ Below w0.heap.size w0 w') from first_any [(false, 3, 0), (false, 2, 0)] 2 B 2 w0 rfl (by decide) ho.lt ho.range0))
   go_upto_region 9 with (first
    | ((with_reducible refine aE rfl ?_ ?_); rfl; intro _)
    | ((go_at_call 97; (with_reducible refine (HN.out _).mono ?_); rintro e wc ⟨rfl, rfl⟩))
    | ((go_at_call 98; (with_reducible refine (HK.out _).mono ?_); rintro e wc ⟨rfl, rfl⟩))
    | ((go_at_call 99; (with_reducible refine (HH.out _).mono ?_); rintro e wc ⟨rfl, rfl⟩))
    | ((go_at_call 62; (with_reducible refine (HFI.out _ _ (aA _ _ _)).mono ?_); rintro e wf ⟨rfl, hb⟩); have hb := (((Below.refl _ _).alloc (Nat.le_refl _) (.cells (List.toArray [.bool false, J I 3, J I 0, .bool false, J I 2, J I 0]) 134)).trans (hb.mono (by simp))); have O5 := Hi (O5.out.below hb O5.out.lt); have PX := Hi (PX.out.upon hb PX.out.src.lt PX.out.led.lt); have CH := Hi (CH.out.trans (aB hb _)); have lf5 := O5.out.lt; have lfX := PX.out.src.lt; have lfL := PX.out.led.lt; clear hb; have O10 := Hi (aA wf (List.toArray [.bool false, J I 0, J I 0]) 134); have O5 := Hi (O5.out.alloc (.cells (List.toArray [.bool false, J I 0, J I 0]) 134)); have PX := Hi (PX.out.alloc (.cells (List.toArray [.bool false, J I 0, J I 0]) 134)); have CH := Hi (CH.out.alloc (.cells (List.toArray [.bool false, J I 0, J I 0]) 134))))
   have hLz := next_L y m (n - 4)
   have H2 := Hi (fun w0 hp => take_any X y m (n - 4) w0 hp)
   have hno := fun ho => next_ok (x := y) (l := m) (n := n - 4) ho
   obtain ⟨⟨⟨z, k⟩, ⟨c, ok⟩⟩, hr⟩ : ∃ r, y.next m (n - 4) = r := ⟨_, rfl⟩
   rw [hr] at E0 hLz hno H2
   simp only at E0 hLz hno
   clear hr
   go_wp2_with fail
   refine (H2.out _ PX.out).mono ?_
   rintro e w3 ⟨rfl, hP, hC⟩
   have O5 := Hi (hC.obj O5.out (by unfold two; rw [hyL]; omega))
   have PX := Hi hP
   have CH := Hi (CH.out.trans (hC.mono fun k _ hk => by unfold two at hk ⊢; first | exact hk | (rw [← hyL]; exact hk)))
   have zz := CH.out.size
   clear hP hC
   cases ok
   · rw [if_pos rfl] at E0
     obtain ⟨F, hF⟩ : ∃ F, aK z k f = F := ⟨_, rfl⟩
     have HF := Hi (fun w0 hp => fault_c X z k f w0 F hF hp)
     have FL : F.length = 3 := by rw [← hF]; exact aV _ _ _
     have FO : F.all (·.oneCell') = true := by rw [← hF]; exact faultL_one _ _ _
     have ER := Hi (show RS = ((ByteArray.empty, F), (z, k)) by rw [← hF]; exact E0.symm)
     clear E0
     have FI : (Tryz.prog.info? 31).map (·.size) = some F.length := by rw [FL]; kernel_rfl
     clear hF
     go_wp2_with (first
      | ((go_at_call 37; (with_reducible refine (HF.out _ PX.out).mono ?_); rintro e wc ⟨rfl, hb⟩); have O5 := Hi (O5.out.below hb O5.out.lt); have PX := Hi (PX.out.upon hb PX.out.src.lt PX.out.led.lt); have CH := Hi (CH.out.trans (aB hb _)); clear hb)
      | (refine store_o rfl 31 3 _ _ rfl w.heap.size F FL FO (by kernel_rfl) (by kernel_rfl) (by kernel_rfl) O5.out (by first | rfl | simp) ?_; intro ws hst hO; have O5 := Hi hO; have PX := Hi (PX.out.into hst (by omega) (by omega)); have CH := Hi (hst.chg CH.out (by omega)); clear hst hO))
     refine bodyPost_ret (v := .tuple #[.string ByteArray.empty, .agg (List.toArray F)]) ?_ rfl ⟨by rw [ER.out], by rw [ER.out]; exact PX.out, CH.out⟩
     exact aa Tryz.results59 _ _ _ F _ rfl O5.out.range0 Tryz.underlying31 rfl FI
   · rw [if_neg (by decide)] at E0
     obtain ⟨-, -, hn4, hy, -, hc⟩ := hno rfl
     have hcs : c.size ≤ 124 := by rw [hc, ByteArray.size_extract]; omega
     have ER := Hi (show RS = ((b ++ c, [J I 0, J I 0, J I 0]), (z, k)) from E0.symm)
     clear E0 hno hc hy
     go_wp2_with (first
      | (refine so 31 3 w.heap.size [J I 0, J I 0, J I 0] O5.out ?_; intro ws hst hO; have O5 := Hi hO; have PX := Hi (PX.out.into hst (by omega) (by omega)); have CH := Hi (hst.chg CH.out (by omega)); clear hst hO))
     refine bodyPost_ret (v := .tuple #[.string (b ++ c), .agg (List.toArray [J I 0, J I 0, J I 0])]) ?_ rfl ⟨by rw [ER.out], by rw [ER.out]; exact PX.out, CH.out⟩
     exact aa Tryz.results59 _ _ _ [J I 0, J I 0, J I 0] _ rfl O5.out.range0 Tryz.underlying31 rfl (by kernel_rfl)

def rightB (s b : Int) : Bool := decide (0 ≤ s ∧ 1 ≤ b ∧ s < 32 ∧ b ≤ 32 - s)
theorem wrap_ones (n : Nat) (h1 : n ≤ 32) : wrap64 (wrap64 (2 ^ n) - 1) = 2 ^ n - 1 := by
 have := pow_pos' n; have h := pow_le' h1
 rw [IntWalk.wrap64_in (2 ^ n) ⟨by omega, by omega⟩, IntWalk.wrap64_in (2 ^ n - 1) ⟨by omega, by omega⟩]
theorem ones_any (n : Int) (w : World) (h0 : 0 ≤ n) (h1 : n ≤ 32) :
 Calls Tryz.prog 184 #[J I n] w fun e w' => e = .returned (J I (2 ^ n.toNat - 1)) ∧ w = w' := by
 have E := Hi (wrap_ones n.toNat (by omega))
 go_enter Tryz.func184, Tryz.ntmps184
 go_wp2
 go_ret
 exact ⟨ret_int E.out, rfl⟩
theorem right_any (s b : Int) (w : World) :
 Calls Tryz.prog 190 #[.agg #[J I s, J I b]] w fun e w' => e = .returned (.bool (rightB s b)) ∧ Below w.heap.size w w' := by
 go_enter Tryz.func190, Tryz.ntmps190
 go_wp2
 all_goals
  go_ret
  refine ⟨?_, by go_grown⟩
  simp [rightB, *]
  try omega
theorem of_yes (s b word : Int) (w : World) (hr : rightB s b = true) :
 Calls Tryz.prog 212 #[.agg #[J I s, J I b], J I word] w fun e w' => e = .returned (J I (word / 2 ^ s.toNat % 2 ^ b.toNat)) ∧ Below w.heap.size w w' := by
 have hb1 : 0 ≤ s ∧ 1 ≤ b ∧ s < 32 ∧ b ≤ 32 - s := by simpa [rightB] using hr
 obtain ⟨b1, b2, b3, b4⟩ := hb1
 have E := Hi (i64_and_mask (word / 2 ^ s.toNat) b.toNat (by omega))
 go_enter Tryz.func212, Tryz.ntmps212
 go_wp2_with (go_at_call 190; (with_reducible refine (right_any _ _ _).mono ?_); rintro e w1 ⟨rfl, hb⟩; obtain ⟨hc, hf⟩ := bcell hb)
 go_quiet ((go_at_call 184; exact Calls.quiet_of_same ((ones_any _ _ (by omega) (by omega)).mono (fun e w' h => ⟨h.1, h.2.symm⟩))))
 go_wp2
 go_ret
 exact ⟨ret_int E.out, bdrew (am hb (by go_grown) (by simp)) _⟩
def mxI (v m : Int) : Int := (2 * v * 255 + m) / (2 * m)
theorem mxI_bd (v m : Int) (h0 : 0 ≤ v) (h1 : v ≤ m) (h2 : 1 ≤ m) : 0 ≤ mxI v m ∧ mxI v m ≤ 255 := by
 unfold mxI
 refine ⟨Int.ediv_nonneg (by omega) (by omega), ?_⟩
 have : (2 * v * 255 + m) / (2 * m) < 256 := Int.ediv_lt_of_lt_mul (by omega) (by omega)
 omega
theorem max_yes (v m : Int) (w : World) (h0 : 0 ≤ v) (h1 : v ≤ m) (h2 : 1 ≤ m) (h3 : m ≤ 4294967295) :
 Calls Tryz.prog 211 #[J I v, J I m] w fun e w' => e = .returned (.tuple #[J U (mxI v m), .bool true]) ∧ w = w' := by
 have hb := mxI_bd v m h0 h1 h2
 have E := Hi (show (2 * v * 255 + m) / (2 * m) % 256 = mxI v m by unfold mxI at *; omega)
 clear hb
 go_enter Tryz.func211, Tryz.ntmps211
 go_wp2
 go_ret2
 exact ⟨by rw [← E.out]; rfl, rfl⟩
theorem bits_yes (v n : Int) (w : World) (h0 : 0 ≤ v) (h1 : 1 ≤ n) (h2 : n ≤ 32) (h3 : v ≤ 2 ^ n.toNat - 1) :
 Calls Tryz.prog 206 #[J I v, J I n] w fun e w' => e = .returned (.tuple #[J U (mxI v (2 ^ n.toNat - 1)), .bool true]) ∧ w = w' := by
 have E := Hi (wrap_ones n.toNat (by omega))
 have H3 := Hi h3
 clear h3
 have P1 := Hi (pow_le' (show 1 ≤ n.toNat by omega))
 have P2 := Hi (pow_le' (show n.toNat ≤ 32 by omega))
 go_enter Tryz.func206, Tryz.ntmps206
 go_wp2_with (go_at_call 211; rw [E.out]; refine (max_yes _ _ _ h0 H3.out (by have := P1.out; omega) (by have := P2.out; omega)).mono ?_; rintro e w' ⟨rfl, rfl⟩)
 go_ret2
 exact ⟨rfl, rfl⟩
def okM (s b : Int) : Prop := (s = 0 ∧ b = 0) ∨ rightB s b = true
def chI (s b word none : Int) : Int := if b = 0 then none else mxI (word / 2 ^ s.toNat % 2 ^ b.toNat) (2 ^ b.toNat - 1)
theorem chan_any (s b word none : Int) (w : World) (hk : okM s b) :
 Calls Tryz.prog 207 #[.agg #[J I s, J I b], J I word, J U none] w fun e w' => e = .returned (J U (chI s b word none)) ∧ Below w.heap.size w w' := by
 rcases hk with ⟨rfl, rfl⟩ | hr
 · go_enter Tryz.func207, Tryz.ntmps207
   go_wp2
   go_ret
   exact ⟨rfl, by go_grown⟩
 · have hb1 : 0 ≤ s ∧ 1 ≤ b ∧ s < 32 ∧ b ≤ 32 - s := by simpa [rightB] using hr
   obtain ⟨b1, b2, b3, b4⟩ := hb1
   have hb0 : (b == 0) = false := by simp; omega
   have E := Hi (show chI s b word none = _ from if_neg (by omega))
   have hp := pow_pos' b.toNat
   have V0 := Hi (Int.emod_nonneg (word / 2 ^ s.toNat) (Int.ne_of_gt hp))
   have V1 := Hi (show word / 2 ^ s.toNat % 2 ^ b.toNat ≤ 2 ^ b.toNat - 1 by have := Int.emod_lt_of_pos (word / 2 ^ s.toNat) hp; omega)
   clear hp
   go_enter Tryz.func207, Tryz.ntmps207
   go_wp2
   go_region_held3 (fun w' => w'.cell? ⟨w.heap.size, 0, Option.none⟩ = some (J I s) ∧ w'.cell? ⟨w.heap.size, 1, Option.none⟩ = some (J I b)) (simp [go_sem, *])
    (first
      | (go_at_call 212; (with_reducible refine (of_yes _ _ _ _ hr).mono ?_); rintro e w1 ⟨rfl, hb⟩; obtain ⟨hc, hf⟩ := bcell hb)
      | (go_at_call 206; refine (bits_yes _ _ _ V0.out (by omega) (by omega) V1.out).mono ?_; rintro e w' ⟨rfl, rfl⟩))
   go_wp2
   go_ret
   exact ⟨ret_int E.out.symm, am hb (by go_grown) (by simp)⟩
theorem color_any (s0 b0 s1 b1 s2 b2 s3 b3 word : Int) (w : World) (k0 : okM s0 b0) (k1 : okM s1 b1) (k2 : okM s2 b2) (k3 : okM s3 b3) :
 Calls Tryz.prog 199 #[.agg #[J I s0, J I b0, J I s1, J I b1, J I s2, J I b2, J I s3, J I b3], J I word] w fun e w' =>
  e = .returned (.agg #[J U (chI s0 b0 word 0), J U (chI s1 b1 word 0), J U (chI s2 b2 word 0), J U (chI s3 b3 word 255)]) ∧ Below w.heap.size w w' := by
 go_enter Tryz.func199, Tryz.ntmps199
 go_wp2
 go_region_held3 (fun w' => KS (w.heap.size + 1) ((w.alloc (Obj.cells #[Value.int IntKind.i64 s0, Value.int IntKind.i64 b0, Value.int IntKind.i64 s1, Value.int IntKind.i64 b1, Value.int IntKind.i64 s2, Value.int IntKind.i64 b2, Value.int IntKind.i64 s3, Value.int IntKind.i64 b3] 61)).alloc (Obj.cells #[Value.int IntKind.u8 0, Value.int IntKind.u8 0, Value.int IntKind.u8 0, Value.int IntKind.u8 0] 104)) (w.heap.size + 1) 4 w')
  (first | exact ks_next (by assumption) hb | exact ks_drew ⟨kp_refl (by simp), slot_alloc' (by simp) rfl⟩ | ((repeat (refine ks_set ?_ _ _ (by simp))); assumption))
    (first
      | (go_at_call 207; (with_reducible refine (chan_any s0 b0 _ _ _ k0).mono ?_); rintro e w1 ⟨rfl, hb⟩)
      | (go_at_call 207; (with_reducible refine (chan_any s1 b1 _ _ _ k1).mono ?_); rintro e w2 ⟨rfl, hb⟩)
      | (go_at_call 207; (with_reducible refine (chan_any s2 b2 _ _ _ k2).mono ?_); rintro e w3 ⟨rfl, hb⟩)
      | (go_at_call 207; (with_reducible refine (chan_any s3 b3 _ _ _ k3).mono ?_); rintro e w4 ⟨rfl, hb⟩))
 rename_i hH
 obtain ⟨hH1, hH2⟩ := hH
 obtain ⟨q0, q1, q2, q3⟩ := slot4 hH2
 have H1 := Hi hH1.1
 clear hH1 hH2
 go_wp2
 refine bodyPost_ret (v := .agg #[J U (chI s0 b0 word 0), J U (chI s1 b1 word 0), J U (chI s2 b2 word 0), J U (chI s3 b3 word 255)]) ?_ rfl ⟨rfl, ?_⟩
 · simp [results, Tryz.results199, go_sem, q0, q1, q2, q3]
 · exact am H1.out (by go_grown) (by simp)

def wordI (s b : Int) : Int := if rightB s b = true then (2 ^ b.toNat - 1) * 2 ^ s.toNat else 0
theorem common16 (w : World) : Calls Tryz.prog 64 #[J I 16] w fun e w' => e = .returned (.tuple #[.agg #[J I 10, J I 5, J I 5, J I 5, J I 0, J I 5, J I 0, J I 0], .bool true]) ∧ Below w.heap.size w w' := by
 go_enter Tryz.func64, Tryz.ntmps64
 go_wp2
 refine bodyPost_ret (v := .tuple #[.agg #[J I 10, J I 5, J I 5, J I 5, J I 0, J I 5, J I 0, J I 0], .bool true]) (by simp [results, Tryz.results64, go_sem]) rfl ⟨rfl, by go_grown⟩
theorem common32 (w : World) : Calls Tryz.prog 64 #[J I 32] w fun e w' => e = .returned (.tuple #[.agg #[J I 16, J I 8, J I 8, J I 8, J I 0, J I 8, J I 0, J I 0], .bool true]) ∧ Below w.heap.size w w' := by
 go_enter Tryz.func64, Tryz.ntmps64
 go_wp2
 refine bodyPost_ret (v := .tuple #[.agg #[J I 16, J I 8, J I 8, J I 8, J I 0, J I 8, J I 0, J I 0], .bool true]) (by simp [results, Tryz.results64, go_sem]) rfl ⟨rfl, by go_grown⟩
theorem common_no (n : Int) (w : World) (h1 : (n == 16) = false) (h2 : (n == 32) = false) : Calls Tryz.prog 64 #[J I n] w fun e w' => e = .returned (.tuple #[.agg #[J I 0, J I 0, J I 0, J I 0, J I 0, J I 0, J I 0, J I 0], .bool false]) ∧ Below w.heap.size w w' := by
 go_enter Tryz.func64, Tryz.ntmps64
 go_wp2
 refine bodyPost_ret (v := .tuple #[.agg #[J I 0, J I 0, J I 0, J I 0, J I 0, J I 0, J I 0, J I 0], .bool false]) (by simp [results, Tryz.results64, go_sem]) rfl ⟨rfl, by go_grown⟩
/-! ### Find -/
def tzF : Nat → Int → Nat
 | 0, _ => 0
 | f + 1, w => if w % 2 = 0 then tzF f (w / 2) + 1 else 0
def toF : Nat → Int → Nat
 | 0, _ => 0
 | f + 1, w => if w % 2 = 1 then toF f (w / 2) + 1 else 0
theorem tzF_spec (f : Nat) : ∀ w : Int, 0 < w → w < 2 ^ f → tzF f w < f ∧ w / 2 ^ tzF f w % 2 = 1 ∧ ∀ i, i < tzF f w → w / 2 ^ i % 2 = 0 := by
 induction f with
 | zero => intro w h0 h1; simp at h1; omega
 | succ f ih =>
   intro w h0 h1
   rw [pow_succ'] at h1
   unfold tzF
   by_cases hm : w % 2 = 0
   · rw [if_pos hm]
     obtain ⟨a, b, c⟩ := ih (w / 2) (by omega) (by omega)
     refine ⟨by omega, ?_, ?_⟩
     · rw [Int.pow_succ, Int.mul_comm, ← Int.ediv_ediv_of_nonneg (by decide)]; exact b
     · intro i hi
       cases i with
       | zero => simpa using hm
       | succ i => rw [Int.pow_succ, Int.mul_comm, ← Int.ediv_ediv_of_nonneg (by decide)]; exact c i (by omega)
   · rw [if_neg hm]
     exact ⟨by omega, by simp; omega, fun i hi => by omega⟩
theorem toF_spec (f : Nat) : ∀ w : Int, 0 ≤ w → w < 2 ^ f → toF f w ≤ f ∧ w / 2 ^ toF f w % 2 = 0 ∧ ∀ i, i < toF f w → w / 2 ^ i % 2 = 1 := by
 induction f with
 | zero => intro w h0 h1; simp at h1; exact ⟨by simp [toF], by simp [toF]; omega, fun i hi => by simp [toF] at hi⟩
 | succ f ih =>
   intro w h0 h1
   rw [pow_succ'] at h1
   unfold toF
   by_cases hm : w % 2 = 1
   · rw [if_pos hm]
     obtain ⟨a, b, c⟩ := ih (w / 2) (by omega) (by omega)
     refine ⟨by omega, ?_, ?_⟩
     · rw [Int.pow_succ, Int.mul_comm, ← Int.ediv_ediv_of_nonneg (by decide)]; exact b
     · intro i hi
       cases i with
       | zero => simpa using hm
       | succ i => rw [Int.pow_succ, Int.mul_comm, ← Int.ediv_ediv_of_nonneg (by decide)]; exact c i (by omega)
   · rw [if_neg hm]
     exact ⟨by omega, by simp; omega, fun i hi => by omega⟩
def fS (w : Int) : Nat := tzF 32 w
def fB (w : Int) : Nat := toF 32 (w / 2 ^ fS w)
def aH (w width : Int) : Int × Int × Int :=
 if ¬ width = 16 ∧ ¬ width = 32 then (0, 0, 1)
 else if w < 0 ∨ 2 ^ width.toNat - 1 < w then (0, 0, 2)
 else if w = 0 then (0, 0, 0)
 else if w / 2 ^ (fS w + fB w) = 0 then (fS w, fB w, 0) else (0, 0, 6)
def FindPost (w : World) (r : Int × Int × Int) (e : Ending) (w' : World) : Prop := e = .returned (.tuple #[.agg #[J I r.1, J I r.2.1], J I r.2.2]) ∧ Below w.heap.size w w'
theorem find_arg (m width : Int) (w : World) (h1 : ¬ width = 16) (h2 : ¬ width = 32) : Calls Tryz.prog 149 #[J I m, J I width] w (FindPost w (0, 0, 1)) := by
 have g1 : (width != 16) = true := by simpa using h1
 have g2 : (width != 32) = true := by simpa using h2
 clear h1 h2
 go_enter Tryz.func149, Tryz.ntmps149
 go_wp2
 exact bodyPost_ret (v := .tuple #[.agg #[J I 0, J I 0], J I 1]) (by simp [results, Tryz.results149, go_sem]) rfl (show FindPost _ _ _ _ from ⟨rfl, by go_grown⟩)
theorem ones16 : (2 : Int) ^ (16 : Int).toNat - 1 = 65535 := by decide
theorem ones32 : (2 : Int) ^ (32 : Int).toNat - 1 = 4294967295 := by decide
def FW (w wr : World) (k j : Nat) : Prop := Below w.heap.size w wr ∧ w.heap.size + 1 < wr.heap.size ∧ Slot w.heap.size 2 wr ∧ wr.cell? ⟨w.heap.size + 1, 0, none⟩ = some (J I k) ∧ wr.cell? ⟨w.heap.size + 1, 1, none⟩ = some (J I j) ∧ ∀ o, wr.frozen? ⟨w.heap.size + 1, o, none⟩ = false
theorem size_set (w : World) (a : Addr) (u : Value) : (w.setCell a u).heap.size = w.heap.size := by simp [World.setCell]
theorem fw_0 {w wr : World} {k j : Nat} (h : FW w wr k j) : FW w (wr.setCell ⟨w.heap.size + 1, 0, none⟩ (J I (↑k + 1))) (k + 1) j := by
 obtain ⟨f1, f2, f3, f4, f5, f6⟩ := h
 exact ⟨f1.setCell (by simp) _, by rw [size_set]; exact f2, slot_set f3 _ _, World.cell?_setCell_same _ _ _ f4, (slot_ne (by decide)).trans f5, fun o => by rw [World.frozen?_setCell]; exact f6 o⟩
theorem fw_1 {w wr : World} {k j : Nat} (h : FW w wr k j) : FW w (wr.setCell ⟨w.heap.size + 1, 1, none⟩ (J I (↑j + 1))) k (j + 1) := by
 obtain ⟨f1, f2, f3, f4, f5, f6⟩ := h
 exact ⟨f1.setCell (by simp) _, by rw [size_set]; exact f2, slot_set f3 _ _, (slot_ne (by decide)).trans f4, World.cell?_setCell_same _ _ _ f5, fun o => by rw [World.frozen?_setCell]; exact f6 o⟩
theorem div_step (m : Int) (k : Nat) : m / 2 ^ k / 2 = m / 2 ^ (k + 1) := (div_pow_succ m k).symm
theorem half_lt {x : Int} (h : 1 ≤ x) : (x / 2).toNat < x.toNat := by omega
theorem findI_go (m width : Int) (h1 : width = 16 ∨ width = 32) (h2 : 1 ≤ m) (h3 : m ≤ 2 ^ width.toNat - 1) : aH m width = if m / 2 ^ fS m / 2 ^ fB m = 0 then ((fS m : Int), (fB m : Int), 0) else (0, 0, 6) := by
 unfold aH
 rw [if_neg (by omega), if_neg (by omega), if_neg (by omega), Int.pow_add, ← Int.ediv_ediv_of_nonneg (Int.le_of_lt (pow_pos' _))]
theorem find_go (m width : Int) (w : World) (h1 : width = 16 ∨ width = 32) (h2 : 1 ≤ m) (h3 : m ≤ 2 ^ width.toNat - 1) : Calls Tryz.prog 149 #[J I m, J I width] w (FindPost w (aH m width)) := by
 have hm : m < 2 ^ 32 := by have := pow_le' (show width.toNat ≤ 32 by omega); omega
 have T0 := Hi (findI_go m width h1 h2 h3)
 obtain ⟨t1, t2, t3⟩ := tzF_spec 32 m (by omega) hm
 have hd0 : 0 ≤ m / 2 ^ fS m := Int.ediv_nonneg (by omega) (Int.le_of_lt (pow_pos' _))
 have hd1 : m / 2 ^ fS m ≤ m := Int.ediv_le_self _ (by omega)
 obtain ⟨u1, u2, u3⟩ := toF_spec 32 (m / 2 ^ fS m) hd0 (by omega)
 have T1 := Hi (show fS m < 32 from t1); have T2 := Hi (show m / 2 ^ fS m % 2 = 1 from t2); have T3 := Hi (show ∀ i, i < fS m → m / 2 ^ i % 2 = 0 from t3)
 have U1 := Hi (show fB m ≤ 32 from u1); have U2 := Hi (show m / 2 ^ fS m / 2 ^ fB m % 2 = 0 from u2); have U3 := Hi (show ∀ i, i < fB m → m / 2 ^ fS m / 2 ^ i % 2 = 1 from u3)
 clear t1 t2 t3 u1 u2 u3 hd0 hd1
 have hne : (m == 0) = false := by simp; omega
 have hM : m ≤ 4294967295 := by omega
 rcases h1 with rfl | rfl
 rw [ones16] at h3
 rotate_left
 rw [ones32] at h3
 all_goals
  go_enter Tryz.func149, Tryz.ntmps149
  go_wp2_with (go_at_call 184; (with_reducible refine (ones_any _ _ (by omega) (by omega)).mono ?_); rintro e w1 ⟨rfl, rfl⟩)
  go_loopw [0] (fun mv wr => ∃ k : Nat, k ≤ fS m ∧ mv = J I (m / 2 ^ k) ∧ FW w wr k 0) (fun mv _ => (intOf mv).toNat)
  case atStart =>
   exact ⟨0, by omega, by simp, by go_grown, by simp, slot_next (B := w.heap.size + 1) (slot_alloc' (t := 59) (cs := #[J I 0, J I 0]) (w := w) rfl rfl) (by go_grown) (by simp), by simp [go_sem], by simp [go_sem], by simp [go_sem]⟩
  case round =>
   obtain ⟨k, hk, rfl, hF⟩ := hrel
   have hF2 := Hi hF
   obtain ⟨f1, f2, f3, f4, f5, f6⟩ := hF
   have hk30 : k < 32 := by have := T1.out; omega
   by_cases hlt : k < fS m
   · have hb0 : m / 2 ^ k % 2 = 0 := T3.out k hlt
     have hpos : 1 ≤ m / 2 ^ k := by
      have hle : (2 : Int) ^ fS m ≤ m := by
       rcases Int.lt_or_le m (2 ^ fS m) with h | h
       · have := T2.out; rw [Int.ediv_eq_zero_of_lt (by omega) h] at this; simp at this
       · exact h
      have := pow_le' (Nat.le_of_lt hlt)
      exact Int.le_ediv_of_mul_le (pow_pos' k) (by omega)
     have hd : (bits BinOp.and IntKind.i64 (m / 2 ^ k) 1 == 0) = true := by rw [i64_and_one, hb0]; rfl
     have hP := Hi hpos
     clear hb0 hpos
     go_wp2
     go_roundw
     case rel => exact ⟨k + 1, by omega, by rw [div_step], fw_0 hF2.out⟩
     case measure => exact half_lt hP.out
   · obtain rfl : k = fS m := by omega
     have hd : (bits BinOp.and IntKind.i64 (m / 2 ^ fS m) 1 == 0) = false := by rw [i64_and_one, T2.out]; rfl
     clear hlt hk
     go_wp2
     go_loopw [0] (fun mv wr => ∃ j : Nat, j ≤ fB m ∧ mv = J I (m / 2 ^ fS m / 2 ^ j) ∧ FW w wr (fS m) j) (fun mv _ => (intOf mv).toNat)
     case atStart => exact ⟨0, by omega, by simp, hF2.out⟩
     case round =>
      obtain ⟨j, hj, rfl, hF⟩ := hrel
      clear f1 f2 f3 f4 f5 f6 hF2 hd
      have hF2 := Hi hF
      obtain ⟨f1, f2, f3, f4, f5, f6⟩ := hF
      have hj30 : j ≤ 32 := by have := U1.out; omega
      by_cases hlt : j < fB m
      · have hb0 : m / 2 ^ fS m / 2 ^ j % 2 = 1 := U3.out j hlt
        have hpos : 1 ≤ m / 2 ^ fS m / 2 ^ j := by
         have h0 : 0 ≤ m / 2 ^ fS m / 2 ^ j := Int.ediv_nonneg (Int.ediv_nonneg (by omega) (Int.le_of_lt (pow_pos' _))) (Int.le_of_lt (pow_pos' _))
         omega
        have hd : (bits BinOp.and IntKind.i64 (m / 2 ^ fS m / 2 ^ j) 1 == 1) = true := by rw [i64_and_one, hb0]; rfl
        have hP := Hi hpos
        clear hb0 hpos
        go_wp2
        go_roundw
        case rel => exact ⟨j + 1, by omega, by rw [div_step], fw_1 hF2.out⟩
        case measure => exact half_lt hP.out
      · obtain rfl : j = fB m := by omega
        have hd : (bits BinOp.and IntKind.i64 (m / 2 ^ fS m / 2 ^ fB m) 1 == 1) = false := by rw [i64_and_one, U2.out]; rfl
        clear hlt hj
        have S2 := Hi f3
        by_cases hz : m / 2 ^ fS m / 2 ^ fB m = 0
        · have hz' : (m / 2 ^ fS m / 2 ^ fB m != 0) = false := by rw [hz]; rfl
          have E := Hi (T0.out.trans (if_pos hz))
          clear hz
          go_wp2
          obtain ⟨q0, q1⟩ := slot2 (a := J I (fS m)) (b := J I (fB m)) S2.out
          refine bodyPost_ret (v := .tuple #[.agg #[J I (fS m), J I (fB m)], J I 0]) (by simp [results, Tryz.results149, go_sem, q0, q1]) rfl (show FindPost _ _ _ _ from ⟨by rw [E.out], ?_⟩)
          exact (hF2.out.1.setCell (by simp) _).setCell (by simp) _
        · have hz' : (m / 2 ^ fS m / 2 ^ fB m != 0) = true := by simpa using hz
          have E := Hi (T0.out.trans (if_neg hz))
          clear hz
          go_wp2
          obtain ⟨q0, q1⟩ := slot2 (a := J I 0) (b := J I 0) S2.out
          refine bodyPost_ret (v := .tuple #[.agg #[J I 0, J I 0], J I 6]) (by simp [results, Tryz.results149, go_sem, q0, q1]) rfl (show FindPost _ _ _ _ from ⟨by rw [E.out], ?_⟩)
          exact (hF2.out.1.setCell (by simp) _).setCell (by simp) _
theorem find_range (m width : Int) (w : World) (h1 : width = 16 ∨ width = 32) (h2 : m < 0 ∨ 2 ^ width.toNat - 1 < m) : Calls Tryz.prog 149 #[J I m, J I width] w (FindPost w (0, 0, 2)) := by
 rcases h1 with rfl | rfl
 rw [ones16] at h2
 rotate_left
 rw [ones32] at h2
 all_goals
  rcases h2 with h2 | h2
  all_goals
   go_enter Tryz.func149, Tryz.ntmps149
   go_wp2_with (go_at_call 184; (with_reducible refine (ones_any _ _ (by omega) (by omega)).mono ?_); rintro e w1 ⟨rfl, rfl⟩)
   exact bodyPost_ret (v := .tuple #[.agg #[J I 0, J I 0], J I 2]) (by simp [results, Tryz.results149, go_sem]) rfl (show FindPost _ _ _ _ from ⟨rfl, by go_grown⟩)
theorem find_zero (width : Int) (w : World) (h1 : width = 16 ∨ width = 32) : Calls Tryz.prog 149 #[J I 0, J I width] w (FindPost w (0, 0, 0)) := by
 rcases h1 with rfl | rfl
 all_goals
  go_enter Tryz.func149, Tryz.ntmps149
  go_wp2_with (go_at_call 184; (with_reducible refine (ones_any _ _ (by omega) (by omega)).mono ?_); rintro e w1 ⟨rfl, rfl⟩)
  exact bodyPost_ret (v := .tuple #[.agg #[J I 0, J I 0], J I 0]) (by simp [results, Tryz.results149, go_sem]) rfl (show FindPost _ _ _ _ from ⟨rfl, by go_grown⟩)
theorem find_any (m width : Int) (w : World) : Calls Tryz.prog 149 #[J I m, J I width] w (FindPost w (aH m width)) := by
 by_cases h1 : width = 16 ∨ width = 32
 · by_cases h2 : m < 0 ∨ 2 ^ width.toNat - 1 < m
   · have : aH m width = (0, 0, 2) := by unfold aH; rw [if_neg (by omega), if_pos h2]
     rw [this]; exact find_range m width w h1 h2
   · by_cases h3 : m = 0
     · have : aH m width = (0, 0, 0) := by unfold aH; rw [if_neg (by omega), if_neg h2, if_pos h3]
       rw [this, h3]; exact find_zero width w h1
     · exact find_go m width w h1 (by omega) (by omega)
 · have : aH m width = (0, 0, 1) := by unfold aH; rw [if_pos (by omega)]
   rw [this]; exact find_arg m width w (by omega) (by omega)
/-! ### the references -/
theorem rbit_any (v i : Int) (w : World) (h0 : 0 ≤ i) (h1 : i ≤ 62) : Calls Tryz.prog 182 #[J I v, J I i] w fun e w' => e = .returned (.bool (bitB v i.toNat)) ∧ w = w' := by
 have E := Hi (show (bits BinOp.and IntKind.i64 (v / 2 ^ i.toNat) 1 == 1) = bitB v i.toNat by rw [i64_and_one]; unfold bitB; by_cases h : v / 2 ^ i.toNat % 2 = 1 <;> simp [h])
 go_enter Tryz.func182, Tryz.ntmps182
 go_wp2
 go_ret
 exact ⟨ret_bool E.out, rfl⟩
theorem power_any (n : Int) (w : World) (h0 : 0 ≤ n) (h1 : n ≤ 62) : Calls Tryz.prog 54 #[J I n] w fun e w' => e = .returned (J I (2 ^ n.toNat)) ∧ w = w' := by
 obtain ⟨n, rfl⟩ := Int.eq_ofNat_of_zero_le h0
 go_enter Tryz.func54, Tryz.ntmps54
 go_wp2
 go_loop [3, 4] (fun v i => ∃ k : Nat, k ≤ n ∧ i = J I k ∧ v = J I (2 ^ k)) (fun _ i => n - (intOf i).toNat)
 case atStart => exact ⟨0, by omega, rfl, rfl⟩
 case round =>
  obtain ⟨k, hk, rfl, rfl⟩ := hrel
  by_cases hlt : k < n
  · have hb := pow_le' (show k ≤ 61 by omega)
    have hp := pow_pos' k
    go_wp2
    go_round
    case rel => exact ⟨k + 1, by omega, by go_num, by rw [pow_succ']⟩
    case measure => simp [intOf]; omega
  · obtain rfl : k = n := by omega
    go_wp2
    go_ret
    exact ⟨by simp, rfl⟩
def ofAcc (word mask : Int) : Nat → Int × Int
 | 0 => (0, 1)
 | k + 1 => if bitB mask k = true then (if bitB word k = true then (ofAcc word mask k).1 + (ofAcc word mask k).2 else (ofAcc word mask k).1, 2 * (ofAcc word mask k).2) else ofAcc word mask k
theorem ofAcc_succ (word mask : Int) (k : Nat) : ofAcc word mask (k + 1) = if bitB mask k = true then (if bitB word k = true then (ofAcc word mask k).1 + (ofAcc word mask k).2 else (ofAcc word mask k).1, 2 * (ofAcc word mask k).2) else ofAcc word mask k := rfl
def ofI (word mask : Int) : Int := (ofAcc word mask 32).1
def cntAcc (mask : Int) : Nat → Int
 | 0 => 0
 | k + 1 => if bitB mask k = true then cntAcc mask k + 1 else cntAcc mask k
theorem cntAcc_succ (mask : Int) (k : Nat) : cntAcc mask (k + 1) = if bitB mask k = true then cntAcc mask k + 1 else cntAcc mask k := rfl
def chR (word mask none : Int) : Int := if mask = 0 then none else mxI (ofI word mask) (2 ^ (cntAcc mask 32).toNat - 1)
def bothF (v u : Int) : Nat → Bool
 | 0 => false
 | k + 1 => bothF v u k || (bitB v k && bitB u k)
theorem bothF_succ (v u : Int) (k : Nat) : bothF v u (k + 1) = (bothF v u k || (bitB v k && bitB u k)) := rfl
theorem bothF_mono (v u : Int) (k j : Nat) (h : bothF v u k = true) (hj : k ≤ j) : bothF v u j = true := by
 induction j with
 | zero => obtain rfl : k = 0 := by omega
           exact h
 | succ j ih => by_cases e : k = j + 1
                · subst e; exact h
                · unfold bothF; rw [ih (by omega)]; rfl
theorem both_any (v u : Int) (w : World) : Calls Tryz.prog 145 #[J I v, J I u] w fun e w' => e = .returned (.bool (bothF v u 32)) ∧ w = w' := by
 go_enter Tryz.func145, Tryz.ntmps145
 go_wp2
 go_loop [5] (fun i => ∃ k : Nat, k ≤ 32 ∧ i = J I k ∧ bothF v u k = false) (fun i => 32 - (intOf i).toNat)
 case atStart => exact ⟨0, by omega, rfl, rfl⟩
 case round =>
  obtain ⟨k, hk, rfl, hf⟩ := hrel
  by_cases hlt : k < 32
  · have E := Hi (bothF_succ v u k)
    have F := Hi hf
    have M := Hi (fun h => bothF_mono v u (k + 1) 32 h (by omega))
    clear hf
    cases h1 : bitB v k <;> cases h2 : bitB u k
    all_goals
     go_wp2_with (first | (go_at_call 182; (with_reducible refine (rbit_any v k _ (by omega) (by omega)).mono ?_); rintro e w1 ⟨rfl, rfl⟩) | (go_at_call 182; (with_reducible refine (rbit_any u k _ (by omega) (by omega)).mono ?_); rintro e w1 ⟨rfl, rfl⟩))
     first
      | (go_ret
         exact ⟨ret_bool (by rw [M.out (by rw [E.out, F.out, h1, h2]; rfl)]), rfl⟩)
      | (go_round
         case rel => exact ⟨k + 1, by omega, by go_num, by rw [E.out, F.out, h1]; simp [h2]⟩
         case measure => simp [intOf]; omega)
  · obtain rfl : k = 32 := by omega
    have F := Hi hf
    clear hf
    go_wp2
    go_ret
    exact ⟨ret_bool F.out.symm, rfl⟩
def af (v : Int) : Nat → Int × Int × Int
 | 0 => (0, 0, 0)
 | k + 1 => if bitB v k = true then (if k = 0 ∨ bitB v (k - 1) = false then (k, (af v k).2.1 + 1, (af v k).2.2 + 1) else ((af v k).1, (af v k).2.1 + 1, (af v k).2.2)) else af v k
theorem rfAcc_succ (v : Int) (k : Nat) : af v (k + 1) = if bitB v k = true then (if k = 0 ∨ bitB v (k - 1) = false then ((k : Int), (af v k).2.1 + 1, (af v k).2.2 + 1) else ((af v k).1, (af v k).2.1 + 1, (af v k).2.2)) else af v k := rfl
theorem rfAcc_bd (v : Int) (k : Nat) : 0 ≤ (af v k).2.1 ∧ (af v k).2.1 ≤ k ∧ 0 ≤ (af v k).2.2 ∧ (af v k).2.2 ≤ k := by
 induction k with
 | zero => simp [af]
 | succ k ih => rw [rfAcc_succ]; split <;> (try split) <;> (try simp only []) <;> omega
def rfindI (v width : Int) : Int × Int × Int :=
 if ¬ width = 16 ∧ ¬ width = 32 then (0, 0, 1)
 else if v < 0 ∨ 2 ^ width.toNat ≤ v then (0, 0, 2)
 else if 1 < (af v width.toNat).2.2 then (0, 0, 6) else ((af v width.toNat).1, (af v width.toNat).2.1, 0)
theorem p16 : (2 : Int) ^ (16 : Int).toNat = 65536 := by decide
theorem p32 : (2 : Int) ^ (32 : Int).toNat = 4294967296 := by decide
theorem t16 : (16 : Int).toNat = 16 := rfl
theorem t32 : (32 : Int).toNat = 32 := rfl
def RFPost (w : World) (r : Int × Int × Int) (e : Ending) (w' : World) : Prop := e = .returned (.tuple #[J I r.1, J I r.2.1, J I r.2.2]) ∧ w = w'
theorem rfind_arg (v width : Int) (w : World) (h1 : ¬ width = 16) (h2 : ¬ width = 32) : Calls Tryz.prog 144 #[J I v, J I width] w (RFPost w (0, 0, 1)) := by
 have g1 : (width != 16) = true := by simpa using h1
 have g2 : (width != 32) = true := by simpa using h2
 clear h1 h2
 go_enter Tryz.func144, Tryz.ntmps144
 go_wp2
 go_ret3
 exact ⟨rfl, rfl⟩
theorem rfind_range (v width : Int) (w : World) (h1 : width = 16 ∨ width = 32) (h2 : v < 0 ∨ 2 ^ width.toNat ≤ v) : Calls Tryz.prog 144 #[J I v, J I width] w (RFPost w (0, 0, 2)) := by
 rcases h1 with rfl | rfl
 rw [p16] at h2
 rotate_left
 rw [p32] at h2
 all_goals
  rcases h2 with h2 | h2
  all_goals
   go_enter Tryz.func144, Tryz.ntmps144
   go_wp2_with (go_at_call 54; (with_reducible refine (power_any _ _ (by omega) (by omega)).mono ?_); rintro e w1 ⟨rfl, rfl⟩)
   go_ret3
   exact ⟨rfl, rfl⟩
theorem rfind_go (v width : Int) (w : World) (h1 : width = 16 ∨ width = 32) (h2 : 0 ≤ v) (h3 : v < 2 ^ width.toNat) : Calls Tryz.prog 144 #[J I v, J I width] w (RFPost w (rfindI v width)) := by
 have T0 := Hi (show rfindI v width = if 1 < (af v width.toNat).2.2 then (0, 0, 6) else ((af v width.toNat).1, (af v width.toNat).2.1, 0) by unfold rfindI; rw [if_neg (by omega), if_neg (by omega)])
 rcases h1 with rfl | rfl
 rw [p16] at h3
 obtain ⟨N, n1, n2⟩ : ∃ N : Nat, N ≤ 16 ∧ 16 ≤ N := ⟨16, by omega, by omega⟩
 rotate_left
 rw [p32] at h3
 obtain ⟨N, n1, n2⟩ : ∃ N : Nat, N ≤ 32 ∧ 32 ≤ N := ⟨32, by omega, by omega⟩
 all_goals
  go_enter Tryz.func144, Tryz.ntmps144
  go_wp2_with (go_at_call 54; (with_reducible refine (power_any _ _ (by omega) (by omega)).mono ?_); rintro e w1 ⟨rfl, rfl⟩)
  go_loop [7, 8, 9, 10] (fun a b c i => ∃ k : Nat, k ≤ N ∧ i = J I k ∧ a = J I (af v k).1 ∧ c = J I (af v k).2.2 ∧ b = J I (af v k).2.1) (fun _ _ _ i => N - (intOf i).toNat)
  case atStart => exact ⟨0, by omega, rfl, rfl, rfl, rfl⟩
  case round =>
   obtain ⟨k, hk, rfl, rfl, rfl, rfl⟩ := hrel
   obtain ⟨b0, b1, b2, b3⟩ := rfAcc_bd v k
   by_cases hlt : k < N
   · have E := Hi (rfAcc_succ v k)
     cases g1 : bitB v k
     · go_wp2_with (go_at_call 182; (with_reducible refine (rbit_any v k _ (by omega) (by omega)).mono ?_); rintro e w1 ⟨rfl, rfl⟩)
       go_round
       case rel => exact ⟨k + 1, by omega, by go_num, by rw [E.out, g1]; simp, by rw [E.out, g1]; simp, by rw [E.out, g1]; simp⟩
       case measure => simp [intOf]; omega
     · by_cases hk0 : k = 0
       · subst hk0
         go_wp2_with (go_at_call 182; (with_reducible refine (rbit_any v 0 _ (by omega) (by omega)).mono ?_); rintro e w1 ⟨rfl, rfl⟩)
         go_round
         case rel => exact ⟨0 + 1, by omega, by go_num, by rw [E.out, g1]; simp, by rw [E.out, g1]; simp, by rw [E.out, g1]; simp⟩
         case measure => simp [intOf]; omega
       · have hd : ((k : Int) == 0) = false := by simp; omega
         have hk1 : ((k : Int) - 1).toNat = k - 1 := by omega
         cases g2 : bitB v (k - 1)
         all_goals
          go_wp2_with (first | (go_at_call 182; (with_reducible refine (rbit_any v k _ (by omega) (by omega)).mono ?_); rintro e w1 ⟨rfl, rfl⟩) | (go_at_call 182; (with_reducible refine (rbit_any v (↑k - 1) _ (by omega) (by omega)).mono ?_); rintro e w1 ⟨rfl, rfl⟩))
          go_round
          case rel => exact ⟨k + 1, by omega, by go_num, by rw [E.out, g1]; simp [g2, hk0], by rw [E.out, g1]; simp [g2, hk0], by rw [E.out, g1]; simp [g2, hk0]⟩
          case measure => simp [intOf]; omega
   · have hge : N ≤ k := by omega
     by_cases hr : 1 < (af v k).2.2
     all_goals
      have E := Hi (T0.out)
      go_wp2
      go_ret3
      have ek : k = 16 ∨ k = 32 := by omega
      refine ⟨?_, rfl⟩
      rw [E.out]
      first | (rw [t16, ← show k = 16 by omega]) | (rw [t32, ← show k = 32 by omega])
      first | rw [if_pos (by omega)] | rw [if_neg (by omega)]
      rfl
theorem rfind_any (v width : Int) (w : World) : Calls Tryz.prog 144 #[J I v, J I width] w (RFPost w (rfindI v width)) := by
 by_cases h1 : width = 16 ∨ width = 32
 · by_cases h2 : v < 0 ∨ 2 ^ width.toNat ≤ v
   · have : rfindI v width = (0, 0, 2) := by unfold rfindI; rw [if_neg (by omega), if_pos h2]
     rw [this]; exact rfind_range v width w h1 h2
   · exact rfind_go v width w h1 (by omega) (by omega)
 · have : rfindI v width = (0, 0, 1) := by unfold rfindI; rw [if_pos (by omega)]
   rw [this]; exact rfind_arg v width w (by omega) (by omega)
def aW (f : Nat → Int) : Int × Int := if f 0 ≠ 0 then (0, f 0) else if f 1 ≠ 0 then (1, f 1) else if f 2 ≠ 0 then (2, f 2) else if f 3 ≠ 0 then (3, f 3) else (0, 0)
theorem scan4_at (f : Nat → Int) (k : Nat) (hk : k < 4) (h : ∀ j, j < k → f j = 0) (h2 : f k ≠ 0) : aW f = ((k : Int), f k) := by
 unfold aW
 rcases (show k = 0 ∨ k = 1 ∨ k = 2 ∨ k = 3 by omega) with rfl | rfl | rfl | rfl
 · rw [if_pos h2]; rfl
 · rw [if_neg (by simp [h 0]), if_pos h2]; rfl
 · rw [if_neg (by simp [h 0]), if_neg (by simp [h 1]), if_pos h2]; rfl
 · rw [if_neg (by simp [h 0]), if_neg (by simp [h 1]), if_neg (by simp [h 2]), if_pos h2]; rfl
theorem scan4_none (f : Nat → Int) (h : ∀ j, j < 4 → f j = 0) : aW f = (0, 0) := by
 unfold aW
 rw [if_neg (by simp [h 0]), if_neg (by simp [h 1]), if_neg (by simp [h 2]), if_neg (by simp [h 3])]
def anyBoth (l : Nat → Int) (k : Nat) : Nat → Bool
 | 0 => false
 | j + 1 => anyBoth l k j || bothF (l k) (l j) 32
theorem anyBoth_mono (l : Nat → Int) (k j i : Nat) (h : anyBoth l k j = true) (hj : j ≤ i) : anyBoth l k i = true := by
 induction i with
 | zero => obtain rfl : j = 0 := by omega
           exact h
 | succ i ih => by_cases e : j = i + 1
                · subst e; exact h
                · unfold anyBoth; rw [ih (by omega)]; rfl
theorem anyBoth_succ (l : Nat → Int) (k j : Nat) : anyBoth l k (j + 1) = (anyBoth l k j || bothF (l k) (l j) 32) := rfl
def rstep (l : Nat → Int) (width : Int) (k : Nat) : Int := if (rfindI (l k) width).2.2 ≠ 0 then (rfindI (l k) width).2.2 else if anyBoth l k k = true then 11 else 0
def RFour (w : World) (r : Int × Int) (e : Ending) (w' : World) : Prop := e = .returned (.tuple #[J I r.1, J I r.2]) ∧ Below w.heap.size w w'
theorem rfour_any (l : Nat → Int) (width : Int) (B : Nat) (w : World) (hB : B < w.heap.size) (hc : ∀ i, i < 4 → w.cell? ⟨B, i, none⟩ = some (J I (l i))) :
 Calls Tryz.prog 94 #[.slice (some ⟨B, 0, none⟩) 4 4, J I width] w (RFour w (aW (rstep l width))) := by
 go_enter Tryz.func94, Tryz.ntmps94
 go_wp2
 go_loopw [6] (fun i wr => ∃ k : Nat, k ≤ 4 ∧ i = J I k ∧ (∀ j, j < k → rstep l width j = 0) ∧ Below w.heap.size w wr) (fun i _ => 4 - (intOf i).toNat)
 case atStart => exact ⟨0, by omega, rfl, fun j hj => by omega, Below.refl _ _⟩
 case round =>
  obtain ⟨k, hk, rfl, hz, hbl⟩ := hrel
  have Z := Hi hz
  clear hz
  have C := Hi (fun i hi => ((bcell hbl).1 B i hB).trans (hc i hi))
  clear hc
  by_cases hlt : k < 4
  · have hck := C.out k hlt
    by_cases he : (rfindI (l k) width).2.2 = 0
    · have hd : ((rfindI (l k) width).2.2 != 0) = false := by rw [he]; rfl
      have He := Hi he
      clear he
      go_wp2_with (go_at_call 144; (with_reducible refine (rfind_any (l k) width _).mono ?_); rintro e w1 ⟨rfl, rfl⟩)
      obtain ⟨wo, rfl⟩ : ∃ wo : World, wo = wr := ⟨_, rfl⟩
      clear hck
      go_loopw [10] (fun i wr => ∃ j : Nat, j ≤ k ∧ i = J I j ∧ anyBoth l k j = false ∧ Below w.heap.size w wr) (fun i _ => k - (intOf i).toNat)
      case atStart => exact ⟨0, by omega, rfl, rfl, hbl⟩
      case round =>
       obtain ⟨j, hj, rfl, ha, hbl⟩ := hrel
       rename_i hbl0
       have C2 := Hi (fun i hi => ((bcell hbl).1 B i hB).trans (((bcell hbl0).1 B i hB).symm.trans (C.out i hi)))
       have A := Hi ha
       clear ha hbl0
       by_cases hjl : j < k
       · have hck := C2.out k hlt
         have hcj := C2.out j (by omega)
         have hj4 : (j : Int) < 4 := by omega
         have hj5 : (k : Int) < 4 := by omega
         have A2 := Hi (anyBoth_succ l k j)
         go_wp2
         go_quiet ((go_at_call 145; exact Calls.quiet_of_same ((both_any (l k) (l j) _).mono (fun e w' h => ⟨h.1, h.2.symm⟩))))
         go_wp2
         · have hb : bothF (l k) (l j) 32 = true := by assumption
           have ht : anyBoth l k k = true := anyBoth_mono l k (j + 1) k (by rw [A2.out, A.out, hb]; rfl) (by omega)
           have hs : rstep l width k = 11 := by unfold rstep; rw [if_neg (by simp [He.out]), if_pos ht]
           have hsc := scan4_at _ k hlt Z.out (by rw [hs]; decide)
           have S := Hi (hsc.trans (by rw [hs]))
           clear hsc hs ht
           go_ret2
           exact ⟨by rw [S.out]; rfl, bdrew hbl _⟩
         · have hb : bothF (l k) (l j) 32 = false := by assumption
           go_roundw
           case rel => exact ⟨j + 1, by omega, by go_num, by rw [A2.out, A.out, hb]; rfl, bdrew hbl _⟩
           case measure => simp [intOf]; omega
       · have ej : j = k := by omega
         have A3 : Hid (anyBoth l k k = false) := Hi (by rw [← ej]; rw [ej]; have := A.out; rwa [ej] at this)
         clear ej
         go_wp2
         go_roundw
         case rel =>
          refine ⟨k + 1, by omega, by go_num, fun i hi => ?_, hbl⟩
          by_cases e : i = k
          · rw [e]; unfold rstep; rw [if_neg (by simp [He.out]), if_neg (by rw [A3.out]; decide)]
          · exact Z.out i (by omega)
         case measure => simp [intOf]; omega
    · have hd : ((rfindI (l k) width).2.2 != 0) = true := by simpa using he
      have hs : rstep l width k = (rfindI (l k) width).2.2 := by unfold rstep; rw [if_pos he]
      have hsc := scan4_at _ k hlt Z.out (by rw [hs]; exact he)
      have S := Hi (hsc.trans (by rw [hs]))
      clear hsc hs he
      go_wp2_with (go_at_call 144; (with_reducible refine (rfind_any (l k) width _).mono ?_); rintro e w1 ⟨rfl, rfl⟩)
      go_ret2
      exact ⟨by rw [S.out]; rfl, hbl⟩
  · have S := Hi (scan4_none _ (fun j hj => Z.out j (by omega)))
    go_wp2
    go_ret2
    exact ⟨by rw [S.out]; rfl, hbl⟩
def seenN (l : Nat → Int) : Nat → Nat
 | 0 => 0
 | k + 1 => seenN l k ||| (l k).toNat
theorem seenN_succ (l : Nat → Int) (k : Nat) : seenN l (k + 1) = seenN l k ||| (l k).toNat := rfl
def ae (l : Nat → Int) (width : Int) (k : Nat) : Int := if (aH (l k) width).2.2 ≠ 0 then (aH (l k) width).2.2 else if (l k).toNat &&& seenN l k ≠ 0 then 11 else 0
theorem findI_ok (m width : Int) (h : (aH m width).2.2 = 0) : 0 ≤ m ∧ m < 2 ^ 32 := by
 unfold aH at h
 split at h
 · simp at h
 · split at h
   · simp at h
   · have := pow_le' (show width.toNat ≤ 32 by omega); omega
theorem seenN_lt (l : Nat → Int) (width : Int) (k : Nat) (h : ∀ j, j < k → ae l width j = 0) : seenN l k < 2 ^ 32 := by
 induction k with
 | zero => simp [seenN]
 | succ k ih =>
   rw [seenN_succ]
   refine Nat.or_lt_two_pow (ih (fun j hj => h j (by omega))) ?_
   have hk := h k (by omega)
   have he : (aH (l k) width).2.2 = 0 := by
    unfold ae at hk; split at hk
    · exact hk
    · rename_i h'; simpa using h'
   have := findI_ok _ _ he
   omega
def oc (l : Nat → Int) (width : Int) (k i : Nat) : Int := if i / 2 < k then (if i % 2 = 0 then (aH (l (i / 2)) width).1 else (aH (l (i / 2)) width).2.1) else 0
def F4 (l : Nat → Int) (width : Int) (w wr : World) (k : Nat) : Prop :=
 Below w.heap.size w wr ∧ w.heap.size + 1 < wr.heap.size ∧ Slot w.heap.size 8 wr ∧ (∀ o, wr.frozen? ⟨w.heap.size + 1, o, none⟩ = false) ∧ ∀ i, i < 8 → wr.cell? ⟨w.heap.size + 1, i, none⟩ = some (J I (oc l width k i))
theorem f4_call {l : Nat → Int} {width : Int} {w wr w1 : World} {k : Nat} (h : F4 l width w wr k) (hb : Below wr.heap.size wr w1) : F4 l width w w1 k := by
 obtain ⟨f1, f2, f3, f4, f5⟩ := h
 have hz := hb.size
 exact ⟨f1.trans (hb.mono (by omega)), by omega, slot_next f3 hb (by omega), fun o => ((bcell hb).2 _ _ f2).trans (f4 o), fun i hi => ((bcell hb).1 _ _ f2).trans (f5 i hi)⟩
theorem f4_step {l : Nat → Int} {width : Int} {w wr w1 : World} {k : Nat} (h : F4 l width w wr k) (hk : k < 4) (hb : Below wr.heap.size wr w1) (a b : Value)
 (ha : a = J I (aH (l k) width).1) (hb' : b = J I (aH (l k) width).2.1) :
 F4 l width w ((w1.setCell ⟨w.heap.size + 1, k * 2, none⟩ a).setCell ⟨w.heap.size + 1, k * 2 + 1, none⟩ b) (k + 1) := by
 obtain ⟨f1, f2, f3, f4, f5⟩ := h
 have hz := hb.size
 have hB : Below w.heap.size w w1 := f1.trans (hb.mono (by omega))
 have hB1 : Below wr.heap.size wr w1 := hb
 have s1 : Slot w.heap.size 8 w1 := slot_next f3 hB1 (by omega)
 have c1 : ∀ i, i < 8 → w1.cell? ⟨w.heap.size + 1, i, none⟩ = some (J I (oc l width k i)) := fun i hi => ((bcell hB1).1 _ _ f2).trans (f5 i hi)
 refine ⟨(hB.setCell (by simp) _).setCell (by simp) _, by rw [size_set, size_set]; omega, slot_set (slot_set s1 _ _) _ _, fun o => ?_, fun i hi => ?_⟩
 · rw [World.frozen?_setCell, World.frozen?_setCell, (bcell hB1).2 _ _ f2]; exact f4 o
 · have c2 : ∃ x, w1.cell? ⟨w.heap.size + 1, k * 2, none⟩ = some x := ⟨_, c1 _ (by omega)⟩
   obtain ⟨x, hx⟩ := c2
   by_cases e1 : i = k * 2 + 1
   · rw [e1, World.cell?_setCell_same _ _ _ ((slot_ne (by omega)).trans (c1 _ (by omega))), hb']
     unfold oc; rw [if_pos (by omega), if_neg (by omega), show (k * 2 + 1) / 2 = k by omega]
   · rw [slot_ne (by omega)]
     by_cases e2 : i = k * 2
     · rw [e2, World.cell?_setCell_same _ _ _ hx, ha]
       unfold oc; rw [if_pos (by omega), if_pos (by omega), show k * 2 / 2 = k by omega]
     · rw [slot_ne (by omega), c1 i hi]
       unfold oc
       by_cases e3 : i / 2 < k
       · have e4 : i / 2 < k + 1 := by omega
         simp only [e3, e4, if_true]
       · have e4 : ¬ i / 2 < k + 1 := by omega
         simp only [e3, e4, if_false]
theorem f4_step2 {l : Nat → Int} {width : Int} {w wr w1 : World} {k : Nat} (h : F4 l width w wr k) (hk : k < 4) (hb : Below wr.heap.size wr w1) (T : TypeId) (cs : Array Value) (a b : Value)
 (ha : a = J I (aH (l k) width).1) (hb' : b = J I (aH (l k) width).2.1) :
 F4 l width w (((w1.setCell ⟨w.heap.size + 1, k * 2, none⟩ a).setCell ⟨w.heap.size + 1, k * 2 + 1, none⟩ b).alloc (.cells cs T)) (k + 1) :=
 f4_call (f4_step h hk hb a b ha hb') ((Below.refl _ _).alloc (Nat.le_refl _) _)
theorem f4_slot {l : Nat → Int} {width : Int} {w w1 : World} {k : Nat} (h : F4 l width w w1 k) (cs : Array Value) (T : TypeId) : Slot w.heap.size 8 (w1.alloc (.cells cs T)) :=
 slot_next h.2.2.1 ((Below.refl _ _).alloc (Nat.le_refl _) _) h.2.2.1.2.2
theorem f4_slot2 {l : Nat → Int} {width : Int} {w w1 : World} {k : Nat} (h : F4 l width w w1 k) (cs : Array Value) (T : TypeId) : Below w.heap.size w (w1.alloc (.cells cs T)) :=
 h.1.alloc (Nat.le_of_lt h.2.2.1.2.2) _
def FourPost (w : World) (l : Nat → Int) (width : Int) (e : Ending) (w' : World) : Prop :=
 Below w.heap.size w w' ∧ e = .returned (.tuple #[.agg (if (aW (ae l width)).2 = 0 then #[J I (aH (l 0) width).1, J I (aH (l 0) width).2.1, J I (aH (l 1) width).1, J I (aH (l 1) width).2.1, J I (aH (l 2) width).1, J I (aH (l 2) width).2.1, J I (aH (l 3) width).1, J I (aH (l 3) width).2.1]
  else #[J I 0, J I 0, J I 0, J I 0, J I 0, J I 0, J I 0, J I 0]), J I (aW (ae l width)).1, J I (aW (ae l width)).2])
theorem and_ne (l : Nat → Int) (width : Int) (k : Nat) (he : (aH (l k) width).2.2 = 0) (hz : ∀ j, j < k → ae l width j = 0) : (bits BinOp.and IntKind.i64 (l k) (seenN l k) != 0) = decide ((l k).toNat &&& seenN l k ≠ 0) ∧ bits BinOp.or IntKind.i64 (seenN l k) (l k) = (seenN l (k + 1) : Int) := by
 have h1 := findI_ok _ _ he
 have h2 := seenN_lt l width k hz
 obtain ⟨n, hn⟩ := Int.eq_ofNat_of_zero_le h1.1
 rw [seenN_succ, hn]
 refine ⟨?_, ?_⟩
 · rw [i64_andN n (seenN l k) (by omega) (by omega)]
   by_cases h : n &&& seenN l k = 0 <;> simp [h]
 · rw [i64_orN (seenN l k) n (by omega) (by omega)]; simp
theorem four_any (l : Nat → Int) (width : Int) (w : World) :
 Calls Tryz.prog 105 #[J I (l 0), J I (l 1), J I (l 2), J I (l 3), J I width] w (FourPost w l width) := by
 have ix : ∀ k : Nat, k < 4 → ∀ w, (Instr.index 177 (.agg #[J I (l 0), J I (l 1), J I (l 2), J I (l 3)]) (J I k)).run Tryz.prog w = .ok (J I (l k)) w := by
  intro k hk w
  rcases (show k = 0 ∨ k = 1 ∨ k = 2 ∨ k = 3 by omega) with rfl | rfl | rfl | rfl
  · kernel_rfl
  · kernel_rfl
  · kernel_rfl
  · kernel_rfl
 have IX := Hi ix
 clear ix
 go_enter Tryz.func105, Tryz.ntmps105
 go_wp2
 go_loopw [14, 24] (fun s i wr => ∃ k : Nat, k ≤ 4 ∧ i = J I k ∧ s = J I (seenN l k) ∧ (∀ j, j < k → ae l width j = 0) ∧ F4 l width w wr k) (fun _ i _ => 4 - (intOf i).toNat)
 case atStart =>
  refine ⟨0, by omega, rfl, rfl, fun j hj => by omega, by go_grown, by simp, ?_, fun o => by simp [go_sem], fun i hi => ?_⟩
  · exact slot_next (slot_alloc' (t := 61) (cs := #[J I 0, J I 0, J I 0, J I 0, J I 0, J I 0, J I 0, J I 0]) (w := w) rfl rfl) ((Below.refl _ _).alloc (Nat.le_refl _) _) (by simp)
  · rw [show oc l width 0 i = 0 by unfold oc; rw [if_neg (by omega)]]
    rcases (show i = 0 ∨ i = 1 ∨ i = 2 ∨ i = 3 ∨ i = 4 ∨ i = 5 ∨ i = 6 ∨ i = 7 by omega) with rfl | rfl | rfl | rfl | rfl | rfl | rfl | rfl <;> simp [go_sem]
 case round =>
  obtain ⟨k, hk, rfl, rfl, hz, hF⟩ := hrel
  have F := Hi hF
  have Z := Hi hz
  clear hz hF
  by_cases hlt : k < 4
  · have ik := IX.out k hlt
    by_cases he : (aH (l k) width).2.2 = 0
    · have hd : ((aH (l k) width).2.2 == 0) = true := by rw [he]; rfl
      have hd2 : ((aH (l k) width).2.2 != 0) = false := by rw [he]; rfl
      have AO := and_ne l width k he Z.out
      by_cases hs : (l k).toNat &&& seenN l k = 0
      · have hd3 : (bits BinOp.and IntKind.i64 (l k) (seenN l k) != 0) = false := by rw [AO.1]; simp [hs]
        have O := Hi AO.2
        have P0 := Hi (show ae l width k = 0 by unfold ae; rw [if_neg (by simp [he]), if_neg (by simp [hs])])
        clear he hs AO
        go_wp2_with (go_at_call 149; (with_reducible refine (find_any (l k) width _).mono ?_); rintro e w1 ⟨rfl, hb⟩; have F1 := Hi (f4_call F.out hb); obtain ⟨f1, f2, f3, f4, f5⟩ := F1.out; clear f1 f3; have g0 := f5 (k * 2) (by omega); have g1 := f5 (k * 2 + 1) (by omega); clear f5; have B1 := Hi hb; clear hb)
        go_roundw
        case rel =>
         refine ⟨k + 1, by omega, by go_num, by rw [← O.out], fun j hj => ?_, f4_step2 F.out hlt B1.out _ _ _ _ rfl rfl⟩
         by_cases e : j = k
         · rw [e]; exact P0.out
         · exact Z.out j (by omega)
        case measure => simp [intOf]; omega
      · have hd3 : (bits BinOp.and IntKind.i64 (l k) (seenN l k) != 0) = true := by rw [AO.1]; simp [hs]
        have hp : ae l width k = 11 := by unfold ae; rw [if_neg (by simp [he]), if_pos hs]
        have hsc := scan4_at _ k hlt Z.out (by rw [hp]; decide)
        have S := Hi (hsc.trans (by rw [hp]))
        clear hsc hs he hp AO
        go_wp2_with (first
         | (go_at_call 149; (with_reducible refine (find_any (l k) width _).mono ?_); rintro e w1 ⟨rfl, hb⟩; have F1 := Hi (f4_call F.out hb); clear hb)
         | (refine store_gen rfl 61 (.tmp 10) (.tmp 44) rfl w.heap.size 0 #[J I 0, J I 0, J I 0, J I 0, J I 0, J I 0, J I 0, J I 0] rfl rfl (slot_there (f4_slot F1.out _ _)) (by kernel_rfl) rfl ?_; intro w2 hst; have R := Hi (hst.range (slot_there (f4_slot F1.out _ _))); have B := Hi (hst.below (f4_slot2 F1.out _ _) (Nat.le_refl _)); clear hst))
        refine bodyPost_ret (v := .tuple #[.agg #[J I 0, J I 0, J I 0, J I 0, J I 0, J I 0, J I 0, J I 0], J I k, J I 11]) ?_ rfl (show FourPost _ _ _ _ _ from ⟨B.out, ?_⟩)
        · exact results_c2 Tryz.results105 _ _ _ _ _ rfl R.out Tryz.underlying61 rfl (by kernel_rfl)
        · rw [S.out]; rfl
    · have hd : ((aH (l k) width).2.2 == 0) = false := by simpa using he
      have hd2 : ((aH (l k) width).2.2 != 0) = true := by simpa using he
      have hp : ae l width k = (aH (l k) width).2.2 := by unfold ae; rw [if_pos he]
      have hsc := scan4_at _ k hlt Z.out (by rw [hp]; exact he)
      have S := Hi (hsc.trans (by rw [hp]))
      have NE := Hi he
      clear hsc he hp
      go_wp2_with (first
       | (go_at_call 149; (with_reducible refine (find_any (l k) width _).mono ?_); rintro e w1 ⟨rfl, hb⟩; have F1 := Hi (f4_call F.out hb); clear hb)
       | (refine store_gen rfl 61 (.tmp 10) (.tmp 44) rfl w.heap.size 0 #[J I 0, J I 0, J I 0, J I 0, J I 0, J I 0, J I 0, J I 0] rfl rfl (slot_there (f4_slot F1.out _ _)) (by kernel_rfl) rfl ?_; intro w2 hst; have R := Hi (hst.range (slot_there (f4_slot F1.out _ _))); have B := Hi (hst.below (f4_slot2 F1.out _ _) (Nat.le_refl _)); clear hst))
      refine bodyPost_ret (v := .tuple #[.agg #[J I 0, J I 0, J I 0, J I 0, J I 0, J I 0, J I 0, J I 0], J I k, J I (aH (l k) width).2.2]) ?_ rfl (show FourPost _ _ _ _ _ from ⟨B.out, ?_⟩)
      · exact results_c2 Tryz.results105 _ _ _ _ _ rfl R.out Tryz.underlying61 rfl (by kernel_rfl)
      · rw [S.out, if_neg NE.out]
  · have he4 : k = 4 := by omega
    have S := Hi (scan4_none _ (fun j hj => Z.out j (by omega)))
    have F' := Hi (show F4 l width w wr 4 by rw [← he4]; exact F.out)
    have hge : 4 ≤ k := by omega
    clear he4 Z F
    obtain ⟨_, _, f3, _, f5⟩ := F'.out
    have g0 : wr.cell? ⟨w.heap.size + 1, 0, none⟩ = some (J I (aH (l 0) width).1) := f5 0 (by omega)
    have g1 : wr.cell? ⟨w.heap.size + 1, 1, none⟩ = some (J I (aH (l 0) width).2.1) := f5 1 (by omega)
    have g2 : wr.cell? ⟨w.heap.size + 1, 2, none⟩ = some (J I (aH (l 1) width).1) := f5 2 (by omega)
    have g3 : wr.cell? ⟨w.heap.size + 1, 3, none⟩ = some (J I (aH (l 1) width).2.1) := f5 3 (by omega)
    have g4 : wr.cell? ⟨w.heap.size + 1, 4, none⟩ = some (J I (aH (l 2) width).1) := f5 4 (by omega)
    have g5 : wr.cell? ⟨w.heap.size + 1, 5, none⟩ = some (J I (aH (l 2) width).2.1) := f5 5 (by omega)
    have g6 : wr.cell? ⟨w.heap.size + 1, 6, none⟩ = some (J I (aH (l 3) width).1) := f5 6 (by omega)
    have g7 : wr.cell? ⟨w.heap.size + 1, 7, none⟩ = some (J I (aH (l 3) width).2.1) := f5 7 (by omega)
    have F3 := Hi f3
    clear f3 f5
    go_wp2_with (refine store_gen rfl 61 (.tmp 10) (.tmp 62) rfl w.heap.size 0 #[J I (aH (l 0) width).1, J I (aH (l 0) width).2.1, J I (aH (l 1) width).1, J I (aH (l 1) width).2.1, J I (aH (l 2) width).1, J I (aH (l 2) width).2.1, J I (aH (l 3) width).1, J I (aH (l 3) width).2.1] rfl rfl (slot_there F3.out) (by kernel_rfl) rfl ?_; intro w2 hst; have R := Hi (hst.range (slot_there F3.out)); have B := Hi (hst.below F'.out.1 (Nat.le_refl _)); clear hst)
    refine bodyPost_ret (v := .tuple #[.agg #[J I (aH (l 0) width).1, J I (aH (l 0) width).2.1, J I (aH (l 1) width).1, J I (aH (l 1) width).2.1, J I (aH (l 2) width).1, J I (aH (l 2) width).2.1, J I (aH (l 3) width).1, J I (aH (l 3) width).2.1], J I 0, J I 0]) ?_ rfl (show FourPost _ _ _ _ _ from ⟨B.out, ?_⟩)
    · exact results_c2 Tryz.results105 _ _ _ _ _ rfl R.out Tryz.underlying61 rfl (by kernel_rfl)
    · rw [S.out]; rfl
end Go.Proofs.YtfchnibjjokmbaaGreat

/- dibhead.take, walked. -/
import Derived.Test.YtlfbaggcfaenlaaGreatK5
import Derived.Test.YtlfbaggcfaenlaaGreatK3
import Derived.Test.YtlfbaggcfaenlaaGreatK0
namespace Go.Proofs.YtlfbaggcfaenlaaGreat
open Go.RowKit
set_option linter.unusedVariables false
set_option linter.unusedSimpArgs false
theorem results_1c {P : Program} {fn : Func} {p q : Tmp} {ty : TypeId} (h : fn.results = #[.tmp p, .cell q ty]) (tmps : Array Value) (w : World) (b : Nat) (cs : List Value) (d : TypeDesc)
    (hq : tmps.getD q undef = .pointer (some ⟨b, 0, none⟩)) (R : w.rangeAt b 0 cs) (hu : P.underlying ty = some d) (hd : d.isRow = true) (hi : (P.info? ty).map (·.size) = some cs.length) :
    (results fn tmps).run P w = .ok (.tuple #[tmps.getD p undef, .agg cs.toArray]) w := by
  have hq' : tmps[q]?.getD undef = .pointer (some ⟨b, 0, none⟩) := by simpa using hq
  simp [results, h, hq', asAddr, run_loadVar_mid w b 0 ty cs d R hu hd hi]
def tkRes (x : Sr) (l : Led) (f : Int) : (ByteArray × List Value) × (Sr × Led) :=
  if (x.next l 4).2.2 = false then ((ByteArray.empty, faultL (x.next l 4).1.1 (x.next l 4).1.2 f), (x.next l 4).1) else
  if headsB (lowK (x.next l 4).2.1 0 4) = false then ((ByteArray.empty, [.int .i64 (if knownH (lowK (x.next l 4).2.1 0 4) = true then 3 else 2), .int .i64 f, .int .i64 x.p]), (x.next l 4).1) else
  if ((x.next l 4).1.1.next (x.next l 4).1.2 (lowK (x.next l 4).2.1 0 4 - 4)).2.2 = false then ((ByteArray.empty, faultL ((x.next l 4).1.1.next (x.next l 4).1.2 (lowK (x.next l 4).2.1 0 4 - 4)).1.1 ((x.next l 4).1.1.next (x.next l 4).1.2 (lowK (x.next l 4).2.1 0 4 - 4)).1.2 f), ((x.next l 4).1.1.next (x.next l 4).1.2 (lowK (x.next l 4).2.1 0 4 - 4)).1) else
  (((x.next l 4).2.1 ++ ((x.next l 4).1.1.next (x.next l 4).1.2 (lowK (x.next l 4).2.1 0 4 - 4)).2.1, [.int .i64 0, .int .i64 0, .int .i64 0]), ((x.next l 4).1.1.next (x.next l 4).1.2 (lowK (x.next l 4).2.1 0 4 - 4)).1)
def TkPost (w : World) (X : Nat) (x : Sr) (R : (ByteArray × List Value) × (Sr × Led)) (e : Ending) (w' : World) : Prop := e = .returned (.tuple #[.string R.1.1, .agg R.1.2.toArray]) ∧ Pair w' X R.2.1 R.2.2 ∧ Chg (two X x) w w'
theorem hlow_v (s : ByteArray) (a n : Nat) (i k V : Int) (w : World) (hi : i = a) (hk : k = n) (hV : lowK s a n = V) (hn : n ≤ 4) (h : a + n ≤ s.size) (hs : s.size ≤ 9223372036854775807) : Calls Tryz.prog 134 #[.string s, .int .i64 i, .int .i64 k] w fun e w' => e = .returned (.int .i64 V) ∧ w' = w := by
  subst hi hk hV; exact hlow_any s a n w hn h hs
theorem heads_le {n : Int} (h : headsB n = true) : 12 ≤ n ∧ n ≤ 124 := by
  unfold headsB at h; simp at h; omega
set_option maxRecDepth 100000 in
set_option maxHeartbeats 8000000 in
theorem htake_any (X : Nat) (x : Sr) (l : Led) (f : Int) (w : World) (h : Pair w X x l) : Calls Tryz.prog 62 #[.pointer (some ⟨X, 0, none⟩), .int .i64 f] w (TkPost w X x (tkRes x l f)) := by
  obtain ⟨RS, hRS⟩ : ∃ r, tkRes x l f = r := ⟨_, rfl⟩
  have E0 := hRS
  unfold tkRes at E0
  unfold TkPost
  rw [hRS]
  clear hRS
  have hpe := h.src.ok.pe
  have hps := h.src.ok.es
  have hpz := h.src.ok.sz
  have lX := h.src.lt
  have lL := h.led.lt
  have O5 := Hi (obj1_new w #[.int .i64 0, .int .i64 0, .int .i64 0] 39)
  have PX := Hi (h.alloc (.cells #[.int .i64 0, .int .i64 0, .int .i64 0] 39))
  have CH := Hi ((Chg.refl (two X x) w).alloc (.cells #[.int .i64 0, .int .i64 0, .int .i64 0] 39))
  have HAT := Hi (fun w0 hp => at_any X x w0 hp)
  have hLy := next_L x l 4
  have hno := fun ho => next_ok (x := x) (l := l) (n := 4) ho
  have H1 := Hi (fun w0 hp => take_any X x l 4 w0 hp)
  obtain ⟨⟨⟨y, m⟩, ⟨b, ok⟩⟩, hr⟩ : ∃ r, x.next l 4 = r := ⟨_, rfl⟩
  rw [hr] at E0 hLy hno H1
  simp only at E0 hLy hno
  clear h hr
  go_enter Tryz.func62, Tryz.ntmps62
  go_upto_region 1 with (fail)
  generalize World.alloc _ _ = w1 at O5 PX CH ⊢
  go_upto_region 2 with ((go_at_call 32; (with_reducible refine (HAT.out _ PX.out.src).mono ?_); rintro e w2 ⟨rfl, rfl⟩))
  go_wp2_with fail
  refine (H1.out _ PX.out).mono ?_
  rintro e w2 ⟨rfl, hP, hC⟩
  have O5 := Hi (hC.obj O5.out (by unfold two; omega))
  have PX := Hi hP
  have CH := Hi (CH.out.trans (hC.mono fun k _ hk => by unfold two at hk ⊢; first | exact hk | (rw [← hyL]; exact hk)))
  have zz := CH.out.size
  clear hP hC
  have hyL := hLy
  cases ok
  · rw [if_pos rfl] at E0
    obtain ⟨F, hF⟩ : ∃ F, faultL y m f = F := ⟨_, rfl⟩
    have HF := Hi (fun w0 hp => fault_c X y m f w0 F hF hp)
    have FL : F.length = 3 := by rw [← hF]; exact faultL_len _ _ _
    have FO : F.all (·.oneCell') = true := by rw [← hF]; exact faultL_one _ _ _
    have ER := Hi (show RS = ((ByteArray.empty, F), (y, m)) by rw [← hF]; exact E0.symm)
    clear E0
    have FI : (Tryz.prog.info? 39).map (·.size) = some F.length := by rw [FL]; kernel_rfl
    clear hF
    go_wp2_with (first
      | ((go_at_call 67; (with_reducible refine (HF.out _ PX.out).mono ?_); rintro e wc ⟨rfl, hb⟩); have O5 := Hi (O5.out.below hb O5.out.lt); have PX := Hi (PX.out.upon hb PX.out.src.lt PX.out.led.lt); have CH := Hi (CH.out.trans (chg_of_below hb _)); clear hb)
      | (refine store_o rfl 39 3 _ _ rfl w.heap.size F FL FO (by kernel_rfl) (by kernel_rfl) (by kernel_rfl) O5.out (by first | rfl | simp) ?_; intro ws hst hO; have O5 := Hi hO; have PX := Hi (PX.out.into hst (by omega) (by omega)); have CH := Hi (hst.chg CH.out (by omega)); clear hst hO))
    refine bodyPost_ret (v := .tuple #[.string ByteArray.empty, .agg (List.toArray F)]) ?_ rfl ⟨by rw [ER.out], by rw [ER.out]; exact PX.out, CH.out⟩
    exact results_1c Tryz.results62 _ _ _ F _ rfl O5.out.range0 Tryz.underlying39 rfl FI
  rw [if_neg (by decide)] at E0
  obtain ⟨-, -, hn4, hy, -, hb⟩ := hno rfl
  have hb4 : b.size = 4 := by rw [hb, ByteArray.size_extract]; omega
  have hye : y.e = x.e := by rw [hy]
  clear hno hb hy
  obtain ⟨n, hn⟩ : ∃ n, lowK b 0 4 = n := ⟨_, rfl⟩
  have HN := Hi (fun w0 => hlow_v b 0 4 0 4 n w0 rfl rfl hn (by omega) (by omega) (by omega))
  have HK := Hi (fun w0 => known_any n w0)
  have HH := Hi (fun w0 => heads_any n w0)
  rw [hn] at E0
  obtain ⟨hd, hhd⟩ : ∃ b, headsB n = b := ⟨_, rfl⟩
  obtain ⟨kn, hkn⟩ : ∃ b, knownH n = b := ⟨_, rfl⟩
  have hkd : hd = true → kn = true := by intro h1; rw [← hkn]; unfold knownH; rw [hhd, h1]; rfl
  have hhl := fun (h1 : hd = true) => heads_le (hhd.trans h1)
  rw [hkn] at HK
  rw [hhd] at HH
  rw [hhd, hkn] at E0
  clear hn hhd hkn
  have h1w := PX.out.src.lt
  cases hd
  · rw [if_pos rfl] at E0
    cases kn
    · have ER := Hi (show RS = ((ByteArray.empty, [.int .i64 2, .int .i64 f, .int .i64 x.p]), (y, m)) from E0.symm)
      clear E0 hkd hhl
      have HFI := Hi (fun (w0 : World) (B : Nat) (ho : Obj1 w0 B (List.toArray [.bool false, .int .i64 3, .int .i64 0, .bool true, .int .i64 2, .int .i64 0]) 134) => (show Calls Tryz.prog 65 #[.slice (some ⟨B, 0, none⟩) (2 : Nat) 2] w0 (fun e w' => e = .returned (.tuple #[.agg #[.bool true, .int .i64 2, .int .i64 0], .bool true]) ∧ Below w0.heap.size w0 w') from first_any [(false, 3, 0), (true, 2, 0)] 2 B 2 w0 rfl (by decide) ho.lt ho.range0))
      go_upto_region 8 with (first
        | ((with_reducible refine skip_g rfl ?_ ?_); rfl; intro _)
        | ((go_at_call 134; (with_reducible refine (HN.out _).mono ?_); rintro e wc ⟨rfl, rfl⟩))
        | ((go_at_call 135; (with_reducible refine (HK.out _).mono ?_); rintro e wc ⟨rfl, rfl⟩))
        | ((go_at_call 136; (with_reducible refine (HH.out _).mono ?_); rintro e wc ⟨rfl, rfl⟩))
        | ((go_at_call 65; (with_reducible refine (HFI.out _ _ (obj1_new _ _ _)).mono ?_); rintro e wf ⟨rfl, hb⟩); have hb := (((Below.refl _ _).alloc (Nat.le_refl _) (.cells (List.toArray [.bool false, .int .i64 3, .int .i64 0, .bool true, .int .i64 2, .int .i64 0]) 134)).trans (hb.mono (by simp))); have O5 := Hi (O5.out.below hb O5.out.lt); have PX := Hi (PX.out.upon hb PX.out.src.lt PX.out.led.lt); have CH := Hi (CH.out.trans (chg_of_below hb _)); have lf5 := O5.out.lt; have lfX := PX.out.src.lt; have lfL := PX.out.led.lt; clear hb; have O10 := Hi (obj1_new wf (List.toArray [.bool true, .int .i64 2, .int .i64 0]) 134); have O5 := Hi (O5.out.alloc (.cells (List.toArray [.bool true, .int .i64 2, .int .i64 0]) 134)); have PX := Hi (PX.out.alloc (.cells (List.toArray [.bool true, .int .i64 2, .int .i64 0]) 134)); have CH := Hi (CH.out.alloc (.cells (List.toArray [.bool true, .int .i64 2, .int .i64 0]) 134))))
      refine wp_region_noPanic ?_
      refine wp_region_held_drew (S := fun w' => w'.rangeAt wf.heap.size 0 [.bool true, .int .i64 2, .int .i64 0]) (by kernel_rfl) O10.out.range0 (fun hHeld => ?_)
      refine wpAnyH_take (i := 0) (v := .pointer (some ⟨wf.heap.size, 1, none⟩)) rfl (by kernel_rfl) (by kernel_rfl) (by kernel_rfl) (fun _ _ _ h => h) (Or.inl ⟨by rfl, fun w hS => by go_simp⟩) hHeld ?_
      simp only [Act.put, zq1, zq2, zq3, zq4, zq5, zq6]
      refine wpAnyH_take (i := 1) (v := .int .i64 2) rfl (by kernel_rfl) (by kernel_rfl) (by kernel_rfl) (fun _ _ _ h => h) (Or.inl ⟨by rfl, fun wx hS => by have h1 : wx.cell? ⟨wf.heap.size, 1, none⟩ = some (.int .i64 2) := hS 1 _ rfl; go_simp⟩) hHeld ?_
      simp only [Act.put, zq1, zq2, zq3, zq4, zq5, zq6]
      refine wpAnyH_take (i := 2) (v := .int .i64 f) rfl (by kernel_rfl) (by kernel_rfl) (by kernel_rfl) (fun _ _ _ h => h) (Or.inl ⟨by rfl, fun w hS => by go_simp⟩) hHeld ?_
      simp only [Act.put, zq1, zq2, zq3, zq4, zq5, zq6]
      refine wpAnyH_take (i := 3) (v := .int .i64 x.p) rfl (by kernel_rfl) (by kernel_rfl) (by kernel_rfl) (fun _ _ _ h => h) (Or.inl ⟨by rfl, fun w hS => by go_simp⟩) hHeld ?_
      simp only [Act.put, zq1, zq2, zq3, zq4, zq5, zq6]
      refine wpAnyH_take (i := 4) (v := .agg #[.int .i64 2, .int .i64 f, .int .i64 x.p]) rfl (by kernel_rfl) (by kernel_rfl) (by kernel_rfl) (fun _ _ _ h => h) (Or.inl ⟨by rfl, fun w hS => by go_simp⟩) hHeld ?_
      simp only [Act.put, zq1, zq2, zq3, zq4, zq5, zq6]
      refine wpAnyH_take (i := 5) (v := .string ⟨#[]⟩) rfl (by kernel_rfl) (by kernel_rfl) (by kernel_rfl) (fun _ _ _ h => h) (Or.inl ⟨by rfl, fun w hS => by go_simp⟩) hHeld ?_
      simp only [Act.put, zq1, zq2, zq3, zq4, zq5, zq6]
      have O5 := Hi (O5.out.drew)
      have O10 := Hi (O10.out.drew)
      have PX := Hi (PX.out.drew1)
      have CH := Hi CH.out.drew
      generalize World.drew _ = wk at O5 O10 PX CH ⊢
      refine wpAnyH_ready (rs := [6]) (by kernel_rfl) (by simp) ?_
      refine AllReadyH.cons (o := _) rfl (fun K' hK => ?_) AllReadyH.nil
      rw [if_pos (by rfl)]
      refine wp_store_mid 39 _ _ rfl (w.heap.size) 0 (List.toArray [.int .i64 2, .int .i64 f, .int .i64 x.p]) rfl rfl (O5.out.there 0 3 (by simp)) (by kernel_rfl) (all_oneCell_toArray (List.all_eq_true.1 (by rfl))) ?_
      simp only [Act.put, zq1, zq2, zq3, zq4, zq5, zq6]
      have hst : Stored wk (w.heap.size) 0 [.int .i64 2, .int .i64 f, .int .i64 x.p] (wk.setCells (w.heap.size) 0 [.int .i64 2, .int .i64 f, .int .i64 x.p]) := rfl
      have O5 := Hi (hst.whole O5.out (by first | rfl | simp))
      have O10 := Hi (hst.oth O10.out (by omega))
      have PX := Hi (PX.out.into hst (by omega) (by omega))
      have CH := Hi (hst.chg CH.out (by omega))
      generalize World.setCells _ _ _ _ = wk2 at O5 O10 PX CH ⊢
      clear hst
      refine hK _ _ O10.out.range0 (fun hH1 => ?_)
      clear hK K'
      obtain ⟨wk, rfl⟩ : ∃ z, z = wk2 := ⟨_, rfl⟩
      refine wpAnyH_done (by kernel_rfl) ?_ _
      refine NoPanic.normal ?_
      go_wp2_with fail
      refine bodyPost_ret (v := .tuple #[.string ByteArray.empty, .agg (List.toArray [.int .i64 2, .int .i64 f, .int .i64 x.p])]) ?_ rfl ⟨by rw [ER.out], by rw [ER.out]; exact PX.out, CH.out⟩
      exact results_1c Tryz.results62 _ _ _ [.int .i64 2, .int .i64 f, .int .i64 x.p] _ rfl O5.out.range0 Tryz.underlying39 rfl (by kernel_rfl)
    · have ER := Hi (show RS = ((ByteArray.empty, [.int .i64 3, .int .i64 f, .int .i64 x.p]), (y, m)) from E0.symm)
      clear E0 hkd hhl
      have HFI := Hi (fun (w0 : World) (B : Nat) (ho : Obj1 w0 B (List.toArray [.bool true, .int .i64 3, .int .i64 0, .bool true, .int .i64 2, .int .i64 0]) 134) => (show Calls Tryz.prog 65 #[.slice (some ⟨B, 0, none⟩) (2 : Nat) 2] w0 (fun e w' => e = .returned (.tuple #[.agg #[.bool true, .int .i64 3, .int .i64 0], .bool true]) ∧ Below w0.heap.size w0 w') from first_any [(true, 3, 0), (true, 2, 0)] 2 B 2 w0 rfl (by decide) ho.lt ho.range0))
      go_upto_region 8 with (first
        | ((with_reducible refine skip_g rfl ?_ ?_); rfl; intro _)
        | ((go_at_call 134; (with_reducible refine (HN.out _).mono ?_); rintro e wc ⟨rfl, rfl⟩))
        | ((go_at_call 135; (with_reducible refine (HK.out _).mono ?_); rintro e wc ⟨rfl, rfl⟩))
        | ((go_at_call 136; (with_reducible refine (HH.out _).mono ?_); rintro e wc ⟨rfl, rfl⟩))
        | ((go_at_call 65; (with_reducible refine (HFI.out _ _ (obj1_new _ _ _)).mono ?_); rintro e wf ⟨rfl, hb⟩); have hb := (((Below.refl _ _).alloc (Nat.le_refl _) (.cells (List.toArray [.bool true, .int .i64 3, .int .i64 0, .bool true, .int .i64 2, .int .i64 0]) 134)).trans (hb.mono (by simp))); have O5 := Hi (O5.out.below hb O5.out.lt); have PX := Hi (PX.out.upon hb PX.out.src.lt PX.out.led.lt); have CH := Hi (CH.out.trans (chg_of_below hb _)); have lf5 := O5.out.lt; have lfX := PX.out.src.lt; have lfL := PX.out.led.lt; clear hb; have O10 := Hi (obj1_new wf (List.toArray [.bool true, .int .i64 3, .int .i64 0]) 134); have O5 := Hi (O5.out.alloc (.cells (List.toArray [.bool true, .int .i64 3, .int .i64 0]) 134)); have PX := Hi (PX.out.alloc (.cells (List.toArray [.bool true, .int .i64 3, .int .i64 0]) 134)); have CH := Hi (CH.out.alloc (.cells (List.toArray [.bool true, .int .i64 3, .int .i64 0]) 134))))
      refine wp_region_noPanic ?_
      refine wp_region_held_drew (S := fun w' => w'.rangeAt wf.heap.size 0 [.bool true, .int .i64 3, .int .i64 0]) (by kernel_rfl) O10.out.range0 (fun hHeld => ?_)
      refine wpAnyH_take (i := 0) (v := .pointer (some ⟨wf.heap.size, 1, none⟩)) rfl (by kernel_rfl) (by kernel_rfl) (by kernel_rfl) (fun _ _ _ h => h) (Or.inl ⟨by rfl, fun w hS => by go_simp⟩) hHeld ?_
      simp only [Act.put, zq1, zq2, zq3, zq4, zq5, zq6]
      refine wpAnyH_take (i := 1) (v := .int .i64 3) rfl (by kernel_rfl) (by kernel_rfl) (by kernel_rfl) (fun _ _ _ h => h) (Or.inl ⟨by rfl, fun wx hS => by have h1 : wx.cell? ⟨wf.heap.size, 1, none⟩ = some (.int .i64 3) := hS 1 _ rfl; go_simp⟩) hHeld ?_
      simp only [Act.put, zq1, zq2, zq3, zq4, zq5, zq6]
      refine wpAnyH_take (i := 2) (v := .int .i64 f) rfl (by kernel_rfl) (by kernel_rfl) (by kernel_rfl) (fun _ _ _ h => h) (Or.inl ⟨by rfl, fun w hS => by go_simp⟩) hHeld ?_
      simp only [Act.put, zq1, zq2, zq3, zq4, zq5, zq6]
      refine wpAnyH_take (i := 3) (v := .int .i64 x.p) rfl (by kernel_rfl) (by kernel_rfl) (by kernel_rfl) (fun _ _ _ h => h) (Or.inl ⟨by rfl, fun w hS => by go_simp⟩) hHeld ?_
      simp only [Act.put, zq1, zq2, zq3, zq4, zq5, zq6]
      refine wpAnyH_take (i := 4) (v := .agg #[.int .i64 3, .int .i64 f, .int .i64 x.p]) rfl (by kernel_rfl) (by kernel_rfl) (by kernel_rfl) (fun _ _ _ h => h) (Or.inl ⟨by rfl, fun w hS => by go_simp⟩) hHeld ?_
      simp only [Act.put, zq1, zq2, zq3, zq4, zq5, zq6]
      refine wpAnyH_take (i := 5) (v := .string ⟨#[]⟩) rfl (by kernel_rfl) (by kernel_rfl) (by kernel_rfl) (fun _ _ _ h => h) (Or.inl ⟨by rfl, fun w hS => by go_simp⟩) hHeld ?_
      simp only [Act.put, zq1, zq2, zq3, zq4, zq5, zq6]
      have O5 := Hi (O5.out.drew)
      have O10 := Hi (O10.out.drew)
      have PX := Hi (PX.out.drew1)
      have CH := Hi CH.out.drew
      generalize World.drew _ = wk at O5 O10 PX CH ⊢
      refine wpAnyH_ready (rs := [6]) (by kernel_rfl) (by simp) ?_
      refine AllReadyH.cons (o := _) rfl (fun K' hK => ?_) AllReadyH.nil
      rw [if_pos (by rfl)]
      refine wp_store_mid 39 _ _ rfl (w.heap.size) 0 (List.toArray [.int .i64 3, .int .i64 f, .int .i64 x.p]) rfl rfl (O5.out.there 0 3 (by simp)) (by kernel_rfl) (all_oneCell_toArray (List.all_eq_true.1 (by rfl))) ?_
      simp only [Act.put, zq1, zq2, zq3, zq4, zq5, zq6]
      have hst : Stored wk (w.heap.size) 0 [.int .i64 3, .int .i64 f, .int .i64 x.p] (wk.setCells (w.heap.size) 0 [.int .i64 3, .int .i64 f, .int .i64 x.p]) := rfl
      have O5 := Hi (hst.whole O5.out (by first | rfl | simp))
      have O10 := Hi (hst.oth O10.out (by omega))
      have PX := Hi (PX.out.into hst (by omega) (by omega))
      have CH := Hi (hst.chg CH.out (by omega))
      generalize World.setCells _ _ _ _ = wk2 at O5 O10 PX CH ⊢
      clear hst
      refine hK _ _ O10.out.range0 (fun hH1 => ?_)
      clear hK K'
      obtain ⟨wk, rfl⟩ : ∃ z, z = wk2 := ⟨_, rfl⟩
      refine wpAnyH_done (by kernel_rfl) ?_ _
      refine NoPanic.normal ?_
      go_wp2_with fail
      refine bodyPost_ret (v := .tuple #[.string ByteArray.empty, .agg (List.toArray [.int .i64 3, .int .i64 f, .int .i64 x.p])]) ?_ rfl ⟨by rw [ER.out], by rw [ER.out]; exact PX.out, CH.out⟩
      exact results_1c Tryz.results62 _ _ _ [.int .i64 3, .int .i64 f, .int .i64 x.p] _ rfl O5.out.range0 Tryz.underlying39 rfl (by kernel_rfl)
  · obtain ⟨h12, h124⟩ := hhl rfl
    obtain rfl := hkd rfl
    clear hhl hkd
    rw [if_neg (by decide)] at E0
    have eWn : IntKind.i64.wrap (n - 4) = n - 4 := i64_wraps _ (by omega) (by omega)
    have eWn' : wrap64 (n - 4) = n - 4 := (IntWalk.i64_left _).symm.trans eWn
    have HFI := Hi (fun (w0 : World) (B : Nat) (ho : Obj1 w0 B (List.toArray [.bool false, .int .i64 3, .int .i64 0, .bool false, .int .i64 2, .int .i64 0]) 134) => (show Calls Tryz.prog 65 #[.slice (some ⟨B, 0, none⟩) (2 : Nat) 2] w0 (fun e w' => e = .returned (.tuple #[.agg #[.bool false, .int .i64 0, .int .i64 0], .bool false]) ∧ Below w0.heap.size w0 w') from first_any [(false, 3, 0), (false, 2, 0)] 2 B 2 w0 rfl (by decide) ho.lt ho.range0))
    go_upto_region 9 with (first
      | ((with_reducible refine skip_g rfl ?_ ?_); rfl; intro _)
      | ((go_at_call 134; (with_reducible refine (HN.out _).mono ?_); rintro e wc ⟨rfl, rfl⟩))
      | ((go_at_call 135; (with_reducible refine (HK.out _).mono ?_); rintro e wc ⟨rfl, rfl⟩))
      | ((go_at_call 136; (with_reducible refine (HH.out _).mono ?_); rintro e wc ⟨rfl, rfl⟩))
      | ((go_at_call 65; (with_reducible refine (HFI.out _ _ (obj1_new _ _ _)).mono ?_); rintro e wf ⟨rfl, hb⟩); have hb := (((Below.refl _ _).alloc (Nat.le_refl _) (.cells (List.toArray [.bool false, .int .i64 3, .int .i64 0, .bool false, .int .i64 2, .int .i64 0]) 134)).trans (hb.mono (by simp))); have O5 := Hi (O5.out.below hb O5.out.lt); have PX := Hi (PX.out.upon hb PX.out.src.lt PX.out.led.lt); have CH := Hi (CH.out.trans (chg_of_below hb _)); have lf5 := O5.out.lt; have lfX := PX.out.src.lt; have lfL := PX.out.led.lt; clear hb; have O10 := Hi (obj1_new wf (List.toArray [.bool false, .int .i64 0, .int .i64 0]) 134); have O5 := Hi (O5.out.alloc (.cells (List.toArray [.bool false, .int .i64 0, .int .i64 0]) 134)); have PX := Hi (PX.out.alloc (.cells (List.toArray [.bool false, .int .i64 0, .int .i64 0]) 134)); have CH := Hi (CH.out.alloc (.cells (List.toArray [.bool false, .int .i64 0, .int .i64 0]) 134))))
    have hLz := next_L y m (n - 4)
    have H2 := Hi (fun w0 hp => take_any X y m (n - 4) w0 hp)
    have hno := fun ho => next_ok (x := y) (l := m) (n := n - 4) ho
    obtain ⟨⟨⟨z, k⟩, ⟨c, ok⟩⟩, hr⟩ : ∃ r, y.next m (n - 4) = r := ⟨_, rfl⟩
    rw [hr] at E0 hLz hno H2
    simp only at E0 hLz hno
    clear hr
    go_wp2_with fail
    refine (H2.out _ PX.out).mono ?_
    rintro e w3 ⟨rfl, hP, hC⟩
    have O5 := Hi (hC.obj O5.out (by unfold two; rw [hyL]; omega))
    have PX := Hi hP
    have CH := Hi (CH.out.trans (hC.mono fun k _ hk => by unfold two at hk ⊢; first | exact hk | (rw [← hyL]; exact hk)))
    have zz := CH.out.size
    clear hP hC
    cases ok
    · rw [if_pos rfl] at E0
      obtain ⟨F, hF⟩ : ∃ F, faultL z k f = F := ⟨_, rfl⟩
      have HF := Hi (fun w0 hp => fault_c X z k f w0 F hF hp)
      have FL : F.length = 3 := by rw [← hF]; exact faultL_len _ _ _
      have FO : F.all (·.oneCell') = true := by rw [← hF]; exact faultL_one _ _ _
      have ER := Hi (show RS = ((ByteArray.empty, F), (z, k)) by rw [← hF]; exact E0.symm)
      clear E0
      have FI : (Tryz.prog.info? 39).map (·.size) = some F.length := by rw [FL]; kernel_rfl
      clear hF
      go_wp2_with (first
        | ((go_at_call 67; (with_reducible refine (HF.out _ PX.out).mono ?_); rintro e wc ⟨rfl, hb⟩); have O5 := Hi (O5.out.below hb O5.out.lt); have PX := Hi (PX.out.upon hb PX.out.src.lt PX.out.led.lt); have CH := Hi (CH.out.trans (chg_of_below hb _)); clear hb)
        | (refine store_o rfl 39 3 _ _ rfl w.heap.size F FL FO (by kernel_rfl) (by kernel_rfl) (by kernel_rfl) O5.out (by first | rfl | simp) ?_; intro ws hst hO; have O5 := Hi hO; have PX := Hi (PX.out.into hst (by omega) (by omega)); have CH := Hi (hst.chg CH.out (by omega)); clear hst hO))
      refine bodyPost_ret (v := .tuple #[.string ByteArray.empty, .agg (List.toArray F)]) ?_ rfl ⟨by rw [ER.out], by rw [ER.out]; exact PX.out, CH.out⟩
      exact results_1c Tryz.results62 _ _ _ F _ rfl O5.out.range0 Tryz.underlying39 rfl FI
    · rw [if_neg (by decide)] at E0
      obtain ⟨-, -, hn4, hy, -, hc⟩ := hno rfl
      have hcs : c.size ≤ 124 := by rw [hc, ByteArray.size_extract]; omega
      have ER := Hi (show RS = ((b ++ c, [.int .i64 0, .int .i64 0, .int .i64 0]), (z, k)) from E0.symm)
      clear E0 hno hc hy
      go_wp2_with (first
        | (refine store_o rfl 39 3 _ _ rfl w.heap.size [.int .i64 0, .int .i64 0, .int .i64 0] rfl rfl (by kernel_rfl) (by kernel_rfl) (by kernel_rfl) O5.out (by first | rfl | simp) ?_; intro ws hst hO; have O5 := Hi hO; have PX := Hi (PX.out.into hst (by omega) (by omega)); have CH := Hi (hst.chg CH.out (by omega)); clear hst hO))
      refine bodyPost_ret (v := .tuple #[.string (b ++ c), .agg (List.toArray [.int .i64 0, .int .i64 0, .int .i64 0])]) ?_ rfl ⟨by rw [ER.out], by rw [ER.out]; exact PX.out, CH.out⟩
      exact results_1c Tryz.results62 _ _ _ [.int .i64 0, .int .i64 0, .int .i64 0] _ rfl O5.out.range0 Tryz.underlying39 rfl (by kernel_rfl)
end Go.Proofs.YtlfbaggcfaenlaaGreat

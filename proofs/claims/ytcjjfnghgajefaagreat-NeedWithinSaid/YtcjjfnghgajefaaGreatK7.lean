/- pnmhead.number, walked. -/
import Derived.Test.YtcjjfnghgajefaaGreatK6
import Derived.Test.YtcjjfnghgajefaaGreatK1
import Derived.Test.YtcjjfnghgajefaaGreatK0
namespace Go.Proofs.YtcjjfnghgajefaaGreat
open Go.RowKit
set_option linter.unusedVariables false
set_option linter.unusedSimpArgs false
theorem kind_zero (x : Sr) (l : Led) (h : (x.kind l).2.2.1 = 0) : (x.kind l).2.2 = (0, 0) := by
  unfold Sr.kind at h ⊢
  by_cases h1 : (x.next l 1).2.2 = false
  · rw [if_pos h1] at h; exact absurd h (ftc_ne _ _)
  rw [if_neg h1] at h ⊢
  by_cases h2 : byN x.s x.p ≠ 80
  · rw [if_pos h2] at h; exact absurd h (show ¬ (2 : Int) = 0 by decide)
  rw [if_neg h2] at h ⊢
  by_cases h3 : ((x.next l 1).1.1.next (x.next l 1).1.2 1).2.2 = false
  · rw [if_pos h3] at h; exact absurd h (ftc_ne _ _)
  rw [if_neg h3] at h ⊢
  by_cases h4 : byN (x.next l 1).1.1.s (x.next l 1).1.1.p < 49 ∨ 54 < byN (x.next l 1).1.1.s (x.next l 1).1.1.p
  · rw [if_pos h4] at h; exact absurd h (show ¬ (2 : Int) = 0 by decide)
  rw [if_neg h4]
set_option maxRecDepth 100000 in
set_option maxHeartbeats 4000000 in
theorem hnum_any {d0 : Nat} {w : World} {X : Nat} {x y : Sr} {m : Led} (h : Rdr d0 w X x y m) (M A : Int) (hA : A ≠ 0) : Calls Tryz.prog 62 #[.pointer (some ⟨X, 0, none⟩), .int .i64 M, .int .i64 A] w (RdPost d0 w X x (y.hnum m M A).1 (.tuple #[.int .i64 (y.hnum m M A).2.1, .agg (pf (y.hnum m M A).2.2).toArray])) := by
  suffices H : Calls Tryz.prog 62 #[.pointer (some ⟨X, 0, none⟩), .int .i64 M, .int .i64 A] w (RdPost w.heap.size w X x (y.hnum m M A).1 (.tuple #[.int .i64 (y.hnum m M A).2.1, .agg (pf (y.hnum m M A).2.2).toArray])) from H.mono fun e w' hh => ⟨hh.1, hh.2.1.to h, hh.2.2⟩
  have PX := Hi (h.self.alloc (.cells #[.int .i64 0, .int .i64 0, .int .i64 0] 36))
  have OF := Hi (obj1_new w #[.int .i64 0, .int .i64 0, .int .i64 0] 36)
  have CH := Hi ((Chg.refl (two X x) w).alloc (.cells #[.int .i64 0, .int .i64 0, .int .i64 0] 36))
  have HSY := Hi h.es
  obtain ⟨R, hR⟩ : ∃ R, y.hnum m M A = R := ⟨_, rfl⟩
  rw [hR]
  have HRE := Hi hR
  obtain ⟨d, hd⟩ : ∃ d, w.heap.size = d := ⟨_, rfl⟩
  have HDe := Hi hd
  rw [hd] at PX OF ⊢
  clear h hR
  go_enter Tryz.func62, Tryz.ntmps62
  go_upto_region 1 with (fail)
  clear hd
  generalize World.alloc _ _ = wr at PX OF CH ⊢
  have HNC := Hi (fun w0 (h0 : Rdr d w0 X x y m) => tnumber_any h0)
  have HZO := Hi (number_zero y m)
  have HA := Hi hA
  replace HRE := Hi (show (if (y.number m).2.2.1 ≠ 0 then ((y.number m).1, ((0 : Int), (y.number m).2.2))
  else if (y.number m).2.1.1 = 0 then ((y.number m).1, (0, (2, (y.number m).2.1.2)))
  else if M < (y.number m).2.1.1 then ((y.number m).1, (0, (A, (y.number m).2.1.2)))
  else ((y.number m).1, ((y.number m).2.1.1, (0, 0)))) = R from HRE.out)
  obtain ⟨⟨⟨z, n⟩, ⟨⟨v, a⟩, F⟩⟩, hQ⟩ : ∃ q, y.number m = q := ⟨_, rfl⟩
  rw [hQ] at HNC HZO HRE
  replace HRE := Hi (show (if F.1 ≠ 0 then ((z, n), ((0 : Int), F)) else if v = 0 then ((z, n), (0, (2, a))) else if M < v then ((z, n), (0, (A, a))) else ((z, n), (v, (0, 0)))) = R from HRE.out)
  replace HZO := Hi (show F.1 = 0 → F = (0, 0) from HZO.out)
  clear hQ hA
  go_wp2_with fail
  with_reducible refine (HNC.out _ PX.out).mono ?_
  rintro e wp ⟨rfl, hp1, hc1⟩
  have OF := Hi (hc1.obj OF.out (not_two PX.out (by omega)))
  have PX := Hi hp1
  have CH := Hi (CH.out.trans hc1)
  clear hp1 hc1
  obtain ⟨g, hg⟩ : ∃ b, wp.heap.size = b := ⟨_, rfl⟩
  have lzg := OF.out.lt
  have OG := Hi (obj1_new wp #[.int .i64 0, .int .i64 0, .int .i64 0] 36)
  rw [hg] at OG lzg
  have PX := Hi (PX.out.alloc (.cells #[.int .i64 0, .int .i64 0, .int .i64 0] 36))
  have CH := Hi (CH.out.alloc (.cells #[.int .i64 0, .int .i64 0, .int .i64 0] 36))
  have OF := Hi (OF.out.alloc (.cells #[.int .i64 0, .int .i64 0, .int .i64 0] 36))
  go_upto_region 2 with (first
    | (refine store_o rfl 36 3 _ _ rfl (g) (pf F) rfl rfl (by kernel_rfl) (by kernel_rfl) (by kernel_rfl) OG.out (by first | rfl | simp) ?_; intro ws hst hO; have OG := Hi hO; have OF := Hi (hst.oth OF.out (by omega)); have PX := Hi (PX.out.into hst (by omega)); have CH := Hi (Stored.chg hst CH.out (by have := HDe.out; omega)); clear hst hO))
  clear hg
  have c0 := (OG.out.cell 0).trans (show _ = some (.int .i64 F.1) from rfl)
  obtain ⟨k, hk⟩ : ∃ k0, F.1 = k0 := ⟨_, rfl⟩
  rw [hk] at c0
  by_cases hkz : k = 0
  rotate_left
  · have g1 : (k != 0) = true := by rw [bne_iff_ne]; exact hkz
    have E := Hi (show R = ((z, n), (0, F)) by have := HRE.out; rw [if_pos (by rw [hk]; exact hkz)] at this; exact this.symm)
    clear hkz hk
    go_upto_region 3 with (fail)
    refine wp_region_noPanic ?_
    refine wp_region_held_drew (S := fun w' => w'.rangeAt (g) 0 (pf F)) (by kernel_rfl) (Obj1.range0 (cs := (pf F)) OG.out) (fun hHeld => ?_)
    refine wpAnyH_take (i := 0) rfl (by kernel_rfl) (by kernel_rfl) (by kernel_rfl) (fun _ _ _ h => h) (yieldsIf_load_mid (by rfl) 36 _ rfl (g) 0 rfl (pf F) _ (fun _ h => h) Tryz.underlying36 rfl (by kernel_rfl)) hHeld ?_
    simp only [Act.put, zq1, zq2, zq3, zq4, zq5, zq6]
    refine wpAnyH_take (i := 1) (v := .int .i64 0) rfl (by kernel_rfl) (by kernel_rfl) (by kernel_rfl) (fun _ _ _ h => h) (Or.inl ⟨by rfl, fun w hS => by go_simp⟩) hHeld ?_
    simp only [Act.put, zq1, zq2, zq3, zq4, zq5, zq6]
    have PX := Hi (PX.out.drew1)
    have CH := Hi (CH.out.drew)
    have OF := Hi (OF.out.drew)
    have OG := Hi (OG.out.drew)
    generalize World.drew _ = wk at PX CH OF OG ⊢
    refine wpAnyH_ready (rs := [2]) (by kernel_rfl) (by simp) ?_
    refine AllReadyH.cons (o := _) rfl (fun K' hK => ?_) AllReadyH.nil
    rw [if_pos (by rfl)]
    refine wp_store_mid 36 _ _ rfl (d) 0 (List.toArray (pf F)) rfl rfl (OF.out.there 0 3 (by first | exact Nat.le_refl _ | simp)) (by kernel_rfl) (all_oneCell_toArray (List.all_eq_true.1 (by rfl))) ?_
    simp only [Act.put, zq1, zq2, zq3, zq4, zq5, zq6]
    have hst : Stored wk (d) 0 (pf F) (wk.setCells (d) 0 (pf F)) := rfl
    have OF := Hi (hst.whole OF.out (by first | rfl | simp))
    have OG := Hi (hst.oth OG.out (by omega))
    have PX := Hi (PX.out.into hst (by omega))
    have CH := Hi (Stored.chg hst CH.out (by have := HDe.out; omega))
    generalize World.setCells _ _ _ _ = wk2 at PX CH OF OG ⊢
    clear hst
    refine hK _ _ (Obj1.range0 (cs := (pf F)) OG.out) (fun hH1 => ?_)
    clear hK K'
    obtain ⟨wk, rfl⟩ : ∃ z, z = wk2 := ⟨_, rfl⟩
    refine wpAnyH_done (by kernel_rfl) ?_ _
    refine NoPanic.normal ?_
    go_wp2_with fail
    refine bodyPost_ret (v := .tuple #[.int .i64 0, .agg (pf F).toArray]) ?_ rfl ⟨by rw [E.out], by rw [E.out]; exact PX.out, CH.out⟩
    exact rs_1c Tryz.results62 _ _ _ (pf F) _ rfl OF.out.range0 Tryz.underlying36 rfl (by kernel_rfl)
  have g1 : (k != 0) = false := by rw [hkz]; rfl
  replace HRE := Hi (show (if v = 0 then ((z, n), ((0 : Int), ((2 : Int), a))) else if M < v then ((z, n), (0, (A, a))) else ((z, n), (v, (0, 0)))) = R by have := HRE.out; rw [if_neg (by rw [hk, hkz]; decide)] at this; exact this)
  clear hkz hk
  go_upto_region 4 with (fail)
  clear c0 g1
  have HB2 := Hi (fun w0 => pbad_any 2 a w0 (by decide))
  have HBA := Hi (fun w0 => pbad_any A a w0 HA.out)
  by_cases hv : v = 0
  · have g2 : (v == 0) = true := by rw [beq_iff_eq]; exact hv
    have E := Hi (show R = ((z, n), (0, (2, a))) by have := HRE.out; rw [if_pos hv] at this; exact this.symm)
    clear hv
    go_wp2_with (first
      | ((go_at_call 100; (with_reducible refine (HB2.out _).mono ?_); rintro e wb ⟨rfl, hb⟩); have PX := Hi (PX.out.upon hb); have OF := Hi (OF.out.below hb OF.out.lt); have OG := Hi (OG.out.below hb OG.out.lt); have CH := Hi (CH.out.trans (chg_of_below hb _)); clear hb)
      | (refine store_o rfl 36 3 _ _ rfl (d) (pf (2, a)) rfl rfl (by kernel_rfl) (by kernel_rfl) (by kernel_rfl) OF.out (by first | rfl | simp) ?_; intro ws hst hO; have OF := Hi hO; have OG := Hi (hst.oth OG.out (by omega)); have PX := Hi (PX.out.into hst (by omega)); have CH := Hi (Stored.chg hst CH.out (by have := HDe.out; omega)); clear hst hO))
    refine bodyPost_ret (v := .tuple #[.int .i64 0, .agg (pf (2, a)).toArray]) ?_ rfl ⟨by rw [E.out], by rw [E.out]; exact PX.out, CH.out⟩
    exact rs_1c Tryz.results62 _ _ _ (pf (2, a)) _ rfl OF.out.range0 Tryz.underlying36 rfl (by kernel_rfl)
  have g2 : (v == 0) = false := by rw [beq_eq_false_iff_ne]; exact hv
  by_cases hM : M < v
  · have g3 : decide (v > M) = true := by rw [decide_eq_true_iff]; exact hM
    have E := Hi (show R = ((z, n), (0, (A, a))) by have := HRE.out; rw [if_neg hv, if_pos hM] at this; exact this.symm)
    clear hv hM
    go_wp2_with (first
      | ((go_at_call 100; (with_reducible refine (HBA.out _).mono ?_); rintro e wb ⟨rfl, hb⟩); have PX := Hi (PX.out.upon hb); have OF := Hi (OF.out.below hb OF.out.lt); have OG := Hi (OG.out.below hb OG.out.lt); have CH := Hi (CH.out.trans (chg_of_below hb _)); clear hb)
      | (refine store_o rfl 36 3 _ _ rfl (d) (pf (A, a)) rfl rfl (by kernel_rfl) (by kernel_rfl) (by kernel_rfl) OF.out (by first | rfl | simp) ?_; intro ws hst hO; have OF := Hi hO; have OG := Hi (hst.oth OG.out (by omega)); have PX := Hi (PX.out.into hst (by omega)); have CH := Hi (Stored.chg hst CH.out (by have := HDe.out; omega)); clear hst hO))
    refine bodyPost_ret (v := .tuple #[.int .i64 0, .agg (pf (A, a)).toArray]) ?_ rfl ⟨by rw [E.out], by rw [E.out]; exact PX.out, CH.out⟩
    exact rs_1c Tryz.results62 _ _ _ (pf (A, a)) _ rfl OF.out.range0 Tryz.underlying36 rfl (by kernel_rfl)
  have g3 : decide (v > M) = false := by rw [decide_eq_false_iff_not]; exact hM
  have E := Hi (show R = ((z, n), (v, (0, 0))) by have := HRE.out; rw [if_neg hv, if_neg hM] at this; exact this.symm)
  clear hv hM
  go_wp2_with (first
    | (refine store_o rfl 36 3 _ _ rfl (d) (pf (0, 0)) rfl rfl (by kernel_rfl) (by kernel_rfl) (by kernel_rfl) OF.out (by first | rfl | simp) ?_; intro ws hst hO; have OF := Hi hO; have OG := Hi (hst.oth OG.out (by omega)); have PX := Hi (PX.out.into hst (by omega)); have CH := Hi (Stored.chg hst CH.out (by have := HDe.out; omega)); clear hst hO))
  refine bodyPost_ret (v := .tuple #[.int .i64 v, .agg (pf (0, 0)).toArray]) ?_ rfl ⟨by rw [E.out], by rw [E.out]; exact PX.out, CH.out⟩
  exact rs_1c Tryz.results62 _ _ _ (pf (0, 0)) _ rfl OF.out.range0 Tryz.underlying36 rfl (by kernel_rfl)
end Go.Proofs.YtcjjfnghgajefaaGreat
namespace Go.Proofs.YtcjjfnghgajefaaGreat
open Go.RowKit
theorem store_c {P : Program} {ops : Array Oper} {rest : List Oper} {op : Oper} {a : Act} {w : World} {Q : Exit → Act → World → Prop} (hgd : op.guard = none) (ty : TypeId) (x y : Operand) (ho : op.op = .store ty x y)
    (b o : Nat) (v : Value) (hc : v.cells = #[v]) (h1 : v.oneCell' = true) (hx : a.eval x = .pointer (some ⟨b, o, none⟩)) (hy : a.eval y = v) (hi : (P.info? ty).map (·.size) = some 1) {cs cs' : Array Value} {T : TypeId} (hO : Obj1 w b cs T) (hs : o < cs.size) (hcs : cs.setIfInBounds o v = cs')
    (h : ∀ w2, Stored w b o [v] w2 → Obj1 w2 b cs' T → wpList P ops Q rest (a.put op.dst undef) w2) : wpList P ops Q (op :: rest) a w := by
  refine wpList_plain hgd fun K hK => ?_
  have ht : w.there b o 1 := hO.there o 1 hs
  have hrun : (storeVar ty ⟨b, o, none⟩ v).run P w = .ok () (w.setCells b o [v]) := by
    have := run_storeCells_cells (P := P) b o [v] 0 w (fun j hj => by simpa using (ht j (by simpa using hj)).1) (fun j hj => by simpa using (ht j (by simpa using hj)).2)
      (fun u hu => by rw [List.mem_singleton] at hu; rw [hu]; exact h1)
    cases hq : P.info? ty with
    | none => simp [hq] at hi
    | some i =>
      have hsz : i.size = 1 := by simpa [hq] using hi
      simp only [Nat.add_zero] at this
      simp [storeVar, sizeOf, typeInfo, hq, hc, hsz, this]
  have hst : Stored w b o [v] (w.setCells b o [v]) := rfl
  have hO2 := hst.obj hO
  rw [show setL cs o [v] = cs.setIfInBounds o v from rfl, hcs] at hO2
  unfold Oper.wp execOp
  simp only [ho, hx, hy, Instr.storeAt, Instr.sureAddr, Sem.run_bind, Sem.run_pure, Result.andThen_ok, hrun]
  exact hK _ _ (h _ hst hO2)
end Go.Proofs.YtcjjfnghgajefaaGreat

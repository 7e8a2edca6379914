/- Parts. -/
import Derived.Test.YtfchnibjjokmbaaGreatK14
set_option linter.all false
set_option maxRecDepth 100000
set_option maxHeartbeats 16000000
open Go.Value renaming int → J, pointer → Y
open Go.IntKind renaming i64 → I, u8 → U
namespace Go.Proofs.YtfchnibjjokmbaaGreat
open Go.RowKit
def Pal.colL (p : Pal) (i : Int) : List Value := [J U (aG (p.ent i.toNat) 0), J U (aG (p.ent i.toNat) 1), J U (aG (p.ent i.toNat) 2), J U (aG (p.ent i.toNat) 3)]
def z4L : List Value := [J U 0, J U 0, J U 0, J U 0]
def aq (p : Pal) (e0 e1 f a : Int) : Value :=
 if p.has e0 = false then .tuple #[.agg (z4L ++ z4L).toArray, flt 2 f a] else
 if p.has e1 = false then .tuple #[.agg (p.colL e0 ++ z4L).toArray, flt 2 f a] else
 .tuple #[.agg (p.colL e0 ++ p.colL e1).toArray, flt 0 0 0]
theorem ppair_8t (N : Nat) (n : Pn) (p : Pal) (v a : Int) (w : World) (h : PnAt w N n) (hp : PalAt w n.P p) (hd8 : n.dp = 8) (h0 : p.has v = true) : Calls Tryz.prog 187 #[Y (some ⟨N, 0, none⟩), J I v, J I a] w fun e w' =>
 e = .returned (aq p v v n.f a) ∧ Chg (fun _ => False) w w' := by
 have hC := ((Chg.refl (fun _ => False) w).alloc (.cells #[J U 0, J U 0, J U 0, J U 0, J U 0, J U 0, J U 0, J U 0] 257)).alloc (.cells #[J I 0, J I 0, J I 0] 31)
 have O8 := Hi ((aA w #[J U 0, J U 0, J U 0, J U 0, J U 0, J U 0, J U 0, J U 0] 257).alloc (.cells #[J I 0, J I 0, J I 0] 31))
 have OF := Hi (aA (w.alloc (.cells #[J U 0, J U 0, J U 0, J U 0, J U 0, J U 0, J U 0, J U 0] 257)) #[J I 0, J I 0, J I 0] 31)
 obtain ⟨d, hd⟩ : ∃ d, w.heap.size = d := ⟨_, rfl⟩
 have HDe := Hi hd
 rw [show (w.alloc (.cells #[J U 0, J U 0, J U 0, J U 0, J U 0, J U 0, J U 0, J U 0] 257)).heap.size = d + 1 by rw [← hd]; simp] at OF
 rw [hd] at O8
 have lN := h.lt
 have lP := hp.lt
 have lB := hp.buf.lt
 have lg := hp.buf.glt hp.opn
 rw [hd] at lN lP lB lg
 have HN := Hi (hC.obj h (fun h => h))
 have HP := Hi (hp.chg hC (fun h => h) (fun h => h) (fun h => h))
 have CH := Hi hC
 have lz : ((w.alloc (.cells #[J U 0, J U 0, J U 0, J U 0, J U 0, J U 0, J U 0, J U 0] 257)).alloc (.cells #[J I 0, J I 0, J I 0] 31)).heap.size = d + 2 := by rw [← hd]; simp
 have i0 : ∀ w, (Instr.index 271 (.agg #[J I v, J I v]) (J I 0)).run Tryz.prog w = .ok (J I v) w := fun _ => by kernel_rfl
 have i1 : ∀ w, (Instr.index 271 (.agg #[J I v, J I v]) (J I 1)).run Tryz.prog w = .ok (J I v) w := fun _ => by kernel_rfl
 obtain ⟨y00, hy00⟩ : ∃ y, aG (p.ent (v).toNat) 0 = y := ⟨_, rfl⟩
 obtain ⟨y01, hy01⟩ : ∃ y, aG (p.ent (v).toNat) 1 = y := ⟨_, rfl⟩
 obtain ⟨y02, hy02⟩ : ∃ y, aG (p.ent (v).toNat) 2 = y := ⟨_, rfl⟩
 obtain ⟨y03, hy03⟩ : ∃ y, aG (p.ent (v).toNat) 3 = y := ⟨_, rfl⟩
 have HOF0 := Hi (fun w0 (hA : PalAt w0 n.P p) => (pof_any n.P p v w0 hA).mono (R' := fun e w' => e = .returned (.tuple #[.agg #[J U y00, J U y01, J U y02, J U y03], .bool true]) ∧ Chg (fun _ => False) w0 w') fun e w' hh => by
  rw [h0, if_pos rfl] at hh; unfold colS4 at hh; rw [hy00, hy01, hy02, hy03] at hh; exact hh)
 obtain ⟨y10, hy10⟩ : ∃ y, aG (p.ent (v).toNat) 0 = y := ⟨_, rfl⟩
 obtain ⟨y11, hy11⟩ : ∃ y, aG (p.ent (v).toNat) 1 = y := ⟨_, rfl⟩
 obtain ⟨y12, hy12⟩ : ∃ y, aG (p.ent (v).toNat) 2 = y := ⟨_, rfl⟩
 obtain ⟨y13, hy13⟩ : ∃ y, aG (p.ent (v).toNat) 3 = y := ⟨_, rfl⟩
 have HOF1 := Hi (fun w0 (hA : PalAt w0 n.P p) => (pof_any n.P p v w0 hA).mono (R' := fun e w' => e = .returned (.tuple #[.agg #[J U y10, J U y11, J U y12, J U y13], .bool true]) ∧ Chg (fun _ => False) w0 w') fun e w' hh => by
  rw [h0, if_pos rfl] at hh; unfold colS4 at hh; rw [hy10, hy11, hy12, hy13] at hh; exact hh)
 have HV := Hi (show aq p v v n.f a = .tuple #[.agg (List.toArray [J U y00, J U y01, J U y02, J U y03, J U y10, J U y11, J U y12, J U y13]), flt 0 0 0] by
  unfold aq; rw [if_neg (by rw [h0]; decide), if_neg (by rw [h0]; decide)]; subst hy00 hy01 hy02 hy03 hy10 hy11 hy12 hy13; rfl)
 rw [HV.out]
 clear hy00 hy01 hy02 hy03 hy10 hy11 hy12 hy13
 go_enter Tryz.func187, Tryz.ntmps187
 go_upto_region 1 with (fail)
 clear hC hd
 generalize World.alloc _ _ = wr at OF O8 CH HN HP lz ⊢
 have O2 := Hi (aA wr #[J I 0, J I 0] 271)
 rw [lz] at O2
 have OF := Hi (OF.out.alloc (.cells #[J I 0, J I 0] 271))
 have O8 := Hi (O8.out.alloc (.cells #[J I 0, J I 0] 271))
 have HN := Hi (HN.out.alloc (.cells #[J I 0, J I 0] 271))
 have hc2 := (Chg.refl (fun _ => False) wr).alloc (.cells #[J I 0, J I 0] 271)
 have HP := Hi (HP.out.chg hc2 (fun h => h) (fun h => h) (fun h => h))
 have CH := Hi (CH.out.trans hc2)
 clear hc2
 go_upto_region 2 with (refine so 271 2 (d + 2) [J I v, J I v] O2.out ?_; intro ws hst hO; have O2 := Hi hO; have hcs := Stored.chgS (S := fun k => k = d + 2) hst (Chg.refl _ _) (Or.inl rfl); have CH := Hi (Stored.chgS hst CH.out (Or.inr (by have := HDe.out; omega))))
 have OF := Hi (hcs.obj OF.out (show ¬ d + 1 = d + 2 by omega))
 have O8 := Hi (hcs.obj O8.out (show ¬ d = d + 2 by omega))
 have HN := Hi (hcs.obj HN.out (show ¬ N = d + 2 by omega))
 have HP := Hi (HP.out.chg hcs (show ¬ n.P = d + 2 by omega) (show ¬ p.B = d + 2 by omega) (show ¬ p.b.g = d + 2 by omega))
 clear hcs hst hO lz
 have k5 := (HN.out.cell 5).trans (show _ = some (J I 8) by show some (Value.int .i64 (n.dp : Int)) = _; rw [hd8] <;> rfl)
 have k17 := (HN.out.cell 17).trans (show _ = some (Y (some ⟨n.P, 0, none⟩)) from rfl)
 have c20 := (O2.out.cell 0).trans (show _ = some (J I v) from rfl)
 have c21 := (O2.out.cell 1).trans (show _ = some (J I v) from rfl)
 go_upto_region 4 with (fail)
 go_wp2_with (fail)
 clear c20 c21 k5 k17
 refine wp_loop_rounds 3 ?_
 rw [rounds_succ]
 go_upto_region 6 with (fail)
 have k17 := (HN.out.cell 17).trans (show _ = some (Y (some ⟨n.P, 0, none⟩)) from rfl)
 go_upto_region 8 with (fail)
 with_reducible refine (HOF0.out _ HP.out).mono ?_
 rintro e6 w6 ⟨rfl, hc6⟩
 have OF := Hi (hc6.obj OF.out (fun h => h))
 have O8 := Hi (hc6.obj O8.out (fun h => h))
 have HN := Hi (hc6.obj HN.out (fun h => h))
 have HP := Hi (HP.out.chg hc6 (fun h => h) (fun h => h) (fun h => h))
 have CH := Hi (CH.out.trans hc6)
 have lz6 := OF.out.lt
 clear hc6 k17
 obtain ⟨dC, hdC⟩ : ∃ dC, w6.heap.size = dC := ⟨_, rfl⟩
 have O4 := Hi (aA w6 #[J U 0, J U 0, J U 0, J U 0] 104)
 rw [hdC] at O4 lz6
 go_upto_region 8 with (refine so 104 4 dC [J U y00, J U y01, J U y02, J U y03] O4.out ?_; intro ws hst hO; have O4 := Hi hO; have hcs := Stored.chgS (S := fun k => k = dC) hst ((Chg.refl (fun k => k = dC) w6).alloc _) (Or.inl rfl))
 have OF := Hi (hcs.obj OF.out (show ¬ d + 1 = dC by omega))
 have O8 := Hi (hcs.obj O8.out (show ¬ d = dC by omega))
 have HN := Hi (hcs.obj HN.out (show ¬ N = dC by omega))
 have HP := Hi (HP.out.chg hcs (show ¬ n.P = dC by omega) (show ¬ p.B = dC by omega) (show ¬ p.b.g = dC by omega))
 have CH := Hi (Chg.after CH.out hcs (fun k hk hk2 => by have := HDe.out; have : k = dC := hk2; omega))
 clear hcs hst hO hdC
 have q0 := (O4.out.cell 0).trans (show _ = some (J U y00) from rfl)
 have q1 := (O4.out.cell 1).trans (show _ = some (J U y01) from rfl)
 have q2 := (O4.out.cell 2).trans (show _ = some (J U y02) from rfl)
 have q3 := (O4.out.cell 3).trans (show _ = some (J U y03) from rfl)
 go_upto_region 11 with (refine store_a rfl 104 _ _ rfl d 0 [J U y00, J U y01, J U y02, J U y03] rfl (by kernel_rfl) (by kernel_rfl) (by kernel_rfl) O8.out (by simp) ?_; intro ws hst hO; have O8 := Hi (hO.cells (show _ = (List.toArray [J U y00, J U y01, J U y02, J U y03, J U 0, J U 0, J U 0, J U 0]) from by kernel_rfl)); have hcs := Stored.chgS (S := fun k => k = d) hst (Chg.refl _ _) (Or.inl rfl))
 have OF := Hi (hcs.obj OF.out (show ¬ d + 1 = d by omega))
 have HN := Hi (hcs.obj HN.out (show ¬ N = d by omega))
 have HP := Hi (HP.out.chg hcs (show ¬ n.P = d by omega) (show ¬ p.B = d by omega) (show ¬ p.b.g = d by omega))
 have CH := Hi (Chg.after CH.out hcs (fun k hk hk2 => by have := HDe.out; have : k = d := hk2; omega))
 clear hcs hst hO q0 q1 q2 q3 lz6 O4
 go_wp2_with (fail)
 rw [rounds_succ]
 go_upto_region 6 with (fail)
 have k17 := (HN.out.cell 17).trans (show _ = some (Y (some ⟨n.P, 0, none⟩)) from rfl)
 go_upto_region 8 with (fail)
 with_reducible refine (HOF1.out _ HP.out).mono ?_
 rintro e6 w6 ⟨rfl, hc6⟩
 have OF := Hi (hc6.obj OF.out (fun h => h))
 have O8 := Hi (hc6.obj O8.out (fun h => h))
 have HN := Hi (hc6.obj HN.out (fun h => h))
 have HP := Hi (HP.out.chg hc6 (fun h => h) (fun h => h) (fun h => h))
 have CH := Hi (CH.out.trans hc6)
 have lz6 := OF.out.lt
 clear hc6 k17
 obtain ⟨dC, hdC⟩ : ∃ dC, w6.heap.size = dC := ⟨_, rfl⟩
 have O4 := Hi (aA w6 #[J U 0, J U 0, J U 0, J U 0] 104)
 rw [hdC] at O4 lz6
 go_upto_region 8 with (refine so 104 4 dC [J U y10, J U y11, J U y12, J U y13] O4.out ?_; intro ws hst hO; have O4 := Hi hO; have hcs := Stored.chgS (S := fun k => k = dC) hst ((Chg.refl (fun k => k = dC) w6).alloc _) (Or.inl rfl))
 have OF := Hi (hcs.obj OF.out (show ¬ d + 1 = dC by omega))
 have O8 := Hi (hcs.obj O8.out (show ¬ d = dC by omega))
 have HN := Hi (hcs.obj HN.out (show ¬ N = dC by omega))
 have HP := Hi (HP.out.chg hcs (show ¬ n.P = dC by omega) (show ¬ p.B = dC by omega) (show ¬ p.b.g = dC by omega))
 have CH := Hi (Chg.after CH.out hcs (fun k hk hk2 => by have := HDe.out; have : k = dC := hk2; omega))
 clear hcs hst hO hdC
 have q0 := (O4.out.cell 0).trans (show _ = some (J U y10) from rfl)
 have q1 := (O4.out.cell 1).trans (show _ = some (J U y11) from rfl)
 have q2 := (O4.out.cell 2).trans (show _ = some (J U y12) from rfl)
 have q3 := (O4.out.cell 3).trans (show _ = some (J U y13) from rfl)
 go_upto_region 11 with (refine store_a rfl 104 _ _ rfl d 4 [J U y10, J U y11, J U y12, J U y13] rfl (by kernel_rfl) (by kernel_rfl) (by kernel_rfl) O8.out (by simp) ?_; intro ws hst hO; have O8 := Hi (hO.cells (show _ = (List.toArray [J U y00, J U y01, J U y02, J U y03, J U y10, J U y11, J U y12, J U y13]) from by kernel_rfl)); have hcs := Stored.chgS (S := fun k => k = d) hst (Chg.refl _ _) (Or.inl rfl))
 have OF := Hi (hcs.obj OF.out (show ¬ d + 1 = d by omega))
 have HN := Hi (hcs.obj HN.out (show ¬ N = d by omega))
 have HP := Hi (HP.out.chg hcs (show ¬ n.P = d by omega) (show ¬ p.B = d by omega) (show ¬ p.b.g = d by omega))
 have CH := Hi (Chg.after CH.out hcs (fun k hk hk2 => by have := HDe.out; have : k = d := hk2; omega))
 clear hcs hst hO q0 q1 q2 q3 lz6 O4
 go_wp2_with (fail)
 rw [rounds_succ]
 go_upto_region 12 with (fail)
 have o0 := (O8.out.cell 0).trans (show _ = some (J U y00) from rfl)
 have o1 := (O8.out.cell 1).trans (show _ = some (J U y01) from rfl)
 have o2 := (O8.out.cell 2).trans (show _ = some (J U y02) from rfl)
 have o3 := (O8.out.cell 3).trans (show _ = some (J U y03) from rfl)
 have o4 := (O8.out.cell 4).trans (show _ = some (J U y10) from rfl)
 have o5 := (O8.out.cell 5).trans (show _ = some (J U y11) from rfl)
 have o6 := (O8.out.cell 6).trans (show _ = some (J U y12) from rfl)
 have o7 := (O8.out.cell 7).trans (show _ = some (J U y13) from rfl)
 go_wp2_with (first
  | (refine so 257 8 d [J U y00, J U y01, J U y02, J U y03, J U y10, J U y11, J U y12, J U y13] O8.out ?_; intro ws hst hO; have O8 := Hi hO; have OF := Hi (hst.oth OF.out (by omega)); have CH := Hi (Stored.chgS hst CH.out (Or.inr (by have := HDe.out; omega))); clear hst hO)
  | (refine so 31 3 (d + 1) [J I 0, J I 0, J I 0] OF.out ?_; intro ws hst hO; have OF := Hi hO; have O8 := Hi (hst.oth O8.out (by omega)); have CH := Hi (Stored.chgS hst CH.out (Or.inr (by have := HDe.out; omega))); clear hst hO))
 refine bodyPost_ret (v := .tuple #[.agg (List.toArray [J U y00, J U y01, J U y02, J U y03, J U y10, J U y11, J U y12, J U y13]), .agg (List.toArray [J I 0, J I 0, J I 0])]) ?_ rfl ⟨rfl, CH.out⟩
 exact aQ Tryz.results187 _ _ _ _ [J U y00, J U y01, J U y02, J U y03, J U y10, J U y11, J U y12, J U y13] [J I 0, J I 0, J I 0] _ _ rfl O8.out.range0 Tryz.underlying257 rfl (by kernel_rfl) rfl OF.out.range0 Tryz.underlying31 rfl (by kernel_rfl)
theorem ppair_8f (N : Nat) (n : Pn) (p : Pal) (v a : Int) (w : World) (h : PnAt w N n) (hp : PalAt w n.P p) (hd8 : n.dp = 8) (h0 : p.has v = false) : Calls Tryz.prog 187 #[Y (some ⟨N, 0, none⟩), J I v, J I a] w fun e w' =>
 e = .returned (aq p v v n.f a) ∧ Chg (fun _ => False) w w' := by
 have hC := ((Chg.refl (fun _ => False) w).alloc (.cells #[J U 0, J U 0, J U 0, J U 0, J U 0, J U 0, J U 0, J U 0] 257)).alloc (.cells #[J I 0, J I 0, J I 0] 31)
 have O8 := Hi ((aA w #[J U 0, J U 0, J U 0, J U 0, J U 0, J U 0, J U 0, J U 0] 257).alloc (.cells #[J I 0, J I 0, J I 0] 31))
 have OF := Hi (aA (w.alloc (.cells #[J U 0, J U 0, J U 0, J U 0, J U 0, J U 0, J U 0, J U 0] 257)) #[J I 0, J I 0, J I 0] 31)
 obtain ⟨d, hd⟩ : ∃ d, w.heap.size = d := ⟨_, rfl⟩
 have HDe := Hi hd
 rw [show (w.alloc (.cells #[J U 0, J U 0, J U 0, J U 0, J U 0, J U 0, J U 0, J U 0] 257)).heap.size = d + 1 by rw [← hd]; simp] at OF
 rw [hd] at O8
 have lN := h.lt
 have lP := hp.lt
 have lB := hp.buf.lt
 have lg := hp.buf.glt hp.opn
 rw [hd] at lN lP lB lg
 have HN := Hi (hC.obj h (fun h => h))
 have HP := Hi (hp.chg hC (fun h => h) (fun h => h) (fun h => h))
 have CH := Hi hC
 have lz : ((w.alloc (.cells #[J U 0, J U 0, J U 0, J U 0, J U 0, J U 0, J U 0, J U 0] 257)).alloc (.cells #[J I 0, J I 0, J I 0] 31)).heap.size = d + 2 := by rw [← hd]; simp
 have i0 : ∀ w, (Instr.index 271 (.agg #[J I v, J I v]) (J I 0)).run Tryz.prog w = .ok (J I v) w := fun _ => by kernel_rfl
 have i1 : ∀ w, (Instr.index 271 (.agg #[J I v, J I v]) (J I 1)).run Tryz.prog w = .ok (J I v) w := fun _ => by kernel_rfl
 have HOF0 := Hi (fun w0 (hA : PalAt w0 n.P p) => (pof_any n.P p v w0 hA).mono (R' := fun e w' => e = .returned (.tuple #[.agg #[J U 0, J U 0, J U 0, J U 0], .bool false]) ∧ Chg (fun _ => False) w0 w') fun e w' hh => by
  rw [h0, if_neg (by decide)] at hh; unfold colZ4 at hh; exact hh)
 obtain ⟨f, hf⟩ : ∃ f, n.f = f := ⟨_, rfl⟩
 have HWR := Hi (fun w0 (h0 : PnAt w0 N n) => (pwrong_any N n a w0 h0).mono (R' := fun e w' => e = .returned (.agg (List.toArray [J I 2, J I f, J I a])) ∧ Below w0.heap.size w0 w') fun e w' hh => by unfold flt at hh; rw [hf] at hh; exact hh)
 have HV := Hi (show aq p v v n.f a = .tuple #[.agg (List.toArray [J U 0, J U 0, J U 0, J U 0, J U 0, J U 0, J U 0, J U 0]), flt 2 f a] by
  unfold aq; rw [if_pos h0]; subst hf; rfl)
 rw [HV.out]
 clear hf
 go_enter Tryz.func187, Tryz.ntmps187
 go_upto_region 1 with (fail)
 clear hC hd
 generalize World.alloc _ _ = wr at OF O8 CH HN HP lz ⊢
 have O2 := Hi (aA wr #[J I 0, J I 0] 271)
 rw [lz] at O2
 have OF := Hi (OF.out.alloc (.cells #[J I 0, J I 0] 271))
 have O8 := Hi (O8.out.alloc (.cells #[J I 0, J I 0] 271))
 have HN := Hi (HN.out.alloc (.cells #[J I 0, J I 0] 271))
 have hc2 := (Chg.refl (fun _ => False) wr).alloc (.cells #[J I 0, J I 0] 271)
 have HP := Hi (HP.out.chg hc2 (fun h => h) (fun h => h) (fun h => h))
 have CH := Hi (CH.out.trans hc2)
 clear hc2
 go_upto_region 2 with (refine so 271 2 (d + 2) [J I v, J I v] O2.out ?_; intro ws hst hO; have O2 := Hi hO; have hcs := Stored.chgS (S := fun k => k = d + 2) hst (Chg.refl _ _) (Or.inl rfl); have CH := Hi (Stored.chgS hst CH.out (Or.inr (by have := HDe.out; omega))))
 have OF := Hi (hcs.obj OF.out (show ¬ d + 1 = d + 2 by omega))
 have O8 := Hi (hcs.obj O8.out (show ¬ d = d + 2 by omega))
 have HN := Hi (hcs.obj HN.out (show ¬ N = d + 2 by omega))
 have HP := Hi (HP.out.chg hcs (show ¬ n.P = d + 2 by omega) (show ¬ p.B = d + 2 by omega) (show ¬ p.b.g = d + 2 by omega))
 clear hcs hst hO lz
 have k5 := (HN.out.cell 5).trans (show _ = some (J I 8) by show some (Value.int .i64 (n.dp : Int)) = _; rw [hd8] <;> rfl)
 have k17 := (HN.out.cell 17).trans (show _ = some (Y (some ⟨n.P, 0, none⟩)) from rfl)
 have c20 := (O2.out.cell 0).trans (show _ = some (J I v) from rfl)
 have c21 := (O2.out.cell 1).trans (show _ = some (J I v) from rfl)
 go_upto_region 4 with (fail)
 go_wp2_with (fail)
 clear c20 c21 k5 k17
 refine wp_loop_rounds 3 ?_
 rw [rounds_succ]
 go_upto_region 6 with (fail)
 have k17 := (HN.out.cell 17).trans (show _ = some (Y (some ⟨n.P, 0, none⟩)) from rfl)
 go_upto_region 8 with (fail)
 with_reducible refine (HOF0.out _ HP.out).mono ?_
 rintro e6 w6 ⟨rfl, hc6⟩
 have OF := Hi (hc6.obj OF.out (fun h => h))
 have O8 := Hi (hc6.obj O8.out (fun h => h))
 have HN := Hi (hc6.obj HN.out (fun h => h))
 have HP := Hi (HP.out.chg hc6 (fun h => h) (fun h => h) (fun h => h))
 have CH := Hi (CH.out.trans hc6)
 have lz6 := OF.out.lt
 clear hc6 k17
 obtain ⟨dC, hdC⟩ : ∃ dC, w6.heap.size = dC := ⟨_, rfl⟩
 have O4 := Hi (aA w6 #[J U 0, J U 0, J U 0, J U 0] 104)
 rw [hdC] at O4 lz6
 go_upto_region 8 with (refine so 104 4 dC [J U 0, J U 0, J U 0, J U 0] O4.out ?_; intro ws hst hO; have O4 := Hi hO; have hcs := Stored.chgS (S := fun k => k = dC) hst ((Chg.refl (fun k => k = dC) w6).alloc _) (Or.inl rfl))
 have OF := Hi (hcs.obj OF.out (show ¬ d + 1 = dC by omega))
 have O8 := Hi (hcs.obj O8.out (show ¬ d = dC by omega))
 have HN := Hi (hcs.obj HN.out (show ¬ N = dC by omega))
 have HP := Hi (HP.out.chg hcs (show ¬ n.P = dC by omega) (show ¬ p.B = dC by omega) (show ¬ p.b.g = dC by omega))
 have CH := Hi (Chg.after CH.out hcs (fun k hk hk2 => by have := HDe.out; have : k = dC := hk2; omega))
 clear hcs hst hO hdC
 go_upto_region 9 with (fail)
 refine wp_region_noPanic ?_
 refine wp_region_held_drew (S := fun w' => Obj1 w' d (List.toArray [J U 0, J U 0, J U 0, J U 0, J U 0, J U 0, J U 0, J U 0]) 257 ∧ Chg (fun k => k = d ∨ k = d + 1) ws w') (by kernel_rfl) ⟨O8.out.drew, (Chg.refl _ _).drew⟩ (fun hHeld => ?_)
 refine zl 0 257 (d) (0) ([J U 0, J U 0, J U 0, J U 0, J U 0, J U 0, J U 0, J U 0]) rfl (fun w hS => hS.1.range0) Tryz.underlying257 hHeld ?_
 refine za 1 (Y (some ⟨N, 0, none⟩)) rfl hHeld ?_
 refine za 2 (J I a) rfl hHeld ?_
 have hS := (show (fun w' => Obj1 w' d (List.toArray [J U 0, J U 0, J U 0, J U 0, J U 0, J U 0, J U 0, J U 0]) 257 ∧ Chg (fun k => k = d ∨ k = d + 1) ws w') (World.drew ws) from ⟨O8.out.drew, (Chg.refl _ _).drew⟩)
 have hF := (Chg.refl (fun _ => False) ws).drew
 generalize World.drew _ = wk at hS hF ⊢
 refine wpAnyH_ready (rs := [3]) (by kernel_rfl) (by simp) ?_
 refine AllReadyH.cons (o := _) rfl (fun K' hK => ?_) AllReadyH.nil
 go_simp
 with_reducible refine (HWR.out _ (hF.obj HN.out (fun h => h))).mono ?_
 rintro e7 w7 ⟨rfl, hb7⟩
 go_wp2_with fail
 have hF := hF.trans (aB hb7 _)
 have OF := Hi (hF.obj OF.out (fun h => h))
 have O8 := Hi (hF.obj O8.out (fun h => h))
 have CH := Hi (CH.out.trans hF)
 have hS := (show (fun w' => Obj1 w' d (List.toArray [J U 0, J U 0, J U 0, J U 0, J U 0, J U 0, J U 0, J U 0]) 257 ∧ Chg (fun k => k = d ∨ k = d + 1) ws w') w7 from ⟨O8.out, hS.2.trans (aB hb7 _)⟩)
 refine hK _ _ hS (fun hH2 => ?_)
 clear hK K' hb7 hF
 try simp only [Act.put, zq1, zq2, zq3, zq4, zq5, zq6]
 refine wpAnyH_ready (rs := [4]) (by kernel_rfl) (by simp) ?_
 refine AllReadyH.cons (o := _) rfl (fun K' hK => ?_) AllReadyH.nil
 rw [if_pos (by rfl)]
 refine wp_store_mid 257 _ _ rfl (d) 0 (List.toArray [J U 0, J U 0, J U 0, J U 0, J U 0, J U 0, J U 0, J U 0]) rfl rfl (by have := O8.out.there 0 8 (by simp); simpa using this) (by kernel_rfl) (all_oneCell_toArray (List.all_eq_true.1 (by rfl))) ?_
 simp only [Act.put, zq1, zq2, zq3, zq4, zq5, zq6]
 have hst : Stored w7 d 0 [J U 0, J U 0, J U 0, J U 0, J U 0, J U 0, J U 0, J U 0] (w7.setCells d 0 [J U 0, J U 0, J U 0, J U 0, J U 0, J U 0, J U 0, J U 0]) := rfl
 have O8 := Hi (hst.whole O8.out rfl)
 have OF := Hi (hst.oth OF.out (by omega))
 have CH := Hi (Stored.chgS hst CH.out (Or.inr (by have := HDe.out; omega)))
 have hS := (show (fun w' => Obj1 w' d (List.toArray [J U 0, J U 0, J U 0, J U 0, J U 0, J U 0, J U 0, J U 0]) 257 ∧ Chg (fun k => k = d ∨ k = d + 1) ws w') (w7.setCells d 0 [J U 0, J U 0, J U 0, J U 0, J U 0, J U 0, J U 0, J U 0]) from ⟨O8.out, Stored.chgS hst hS.2 (Or.inl (Or.inl rfl))⟩)
 generalize World.setCells _ _ _ _ = w8 at O8 OF CH hS ⊢
 clear hst
 refine hK _ _ hS (fun hH3 => ?_)
 clear hK K'
 refine wpAnyH_ready (rs := [5]) (by kernel_rfl) (by simp) ?_
 refine AllReadyH.cons (o := _) rfl (fun K' hK => ?_) AllReadyH.nil
 rw [if_pos (by rfl)]
 refine wp_store_mid 31 _ _ rfl (d + 1) 0 (List.toArray [J I 2, J I f, J I a]) rfl rfl (by have := OF.out.there 0 3 (by simp); simpa using this) (by kernel_rfl) (all_oneCell_toArray (List.all_eq_true.1 (by rfl))) ?_
 simp only [Act.put, zq1, zq2, zq3, zq4, zq5, zq6]
 have hst : Stored w8 (d + 1) 0 [J I 2, J I f, J I a] (w8.setCells (d + 1) 0 [J I 2, J I f, J I a]) := rfl
 have OF := Hi (hst.whole OF.out rfl)
 have O8 := Hi (hst.oth O8.out (by omega))
 have CH := Hi (Stored.chgS hst CH.out (Or.inr (by have := HDe.out; omega)))
 have hS := (show (fun w' => Obj1 w' d (List.toArray [J U 0, J U 0, J U 0, J U 0, J U 0, J U 0, J U 0, J U 0]) 257 ∧ Chg (fun k => k = d ∨ k = d + 1) ws w') (w8.setCells (d + 1) 0 [J I 2, J I f, J I a]) from ⟨O8.out, Stored.chgS hst hS.2 (Or.inl (Or.inr rfl))⟩)
 generalize World.setCells _ _ _ _ = w9 at O8 OF CH hS ⊢
 clear hst
 refine hK _ _ hS (fun hH4 => ?_)
 clear hK K'
 refine wpAnyH_done (by kernel_rfl) ?_ _
 refine NoPanic.normal ?_
 go_wp2_with fail
 refine bodyPost_ret (v := .tuple #[.agg (List.toArray [J U 0, J U 0, J U 0, J U 0, J U 0, J U 0, J U 0, J U 0]), .agg (List.toArray [J I 2, J I f, J I a])]) ?_ rfl ⟨rfl, CH.out⟩
 exact aQ Tryz.results187 _ _ _ _ [J U 0, J U 0, J U 0, J U 0, J U 0, J U 0, J U 0, J U 0] [J I 2, J I f, J I a] _ _ rfl O8.out.range0 Tryz.underlying257 rfl (by kernel_rfl) rfl OF.out.range0 Tryz.underlying31 rfl (by kernel_rfl)
theorem ppair_4t (N : Nat) (n : Pn) (p : Pal) (v a : Int) (w : World) (h : PnAt w N n) (hp : PalAt w n.P p) (hd8 : n.dp = 4) (h0 : p.has (v / 16) = true) (h1 : p.has (v % 16) = true) (hv : 0 ≤ v ∧ v < 256) : Calls Tryz.prog 187 #[Y (some ⟨N, 0, none⟩), J I v, J I a] w fun e w' =>
 e = .returned (aq p (v / 16) (v % 16) n.f a) ∧ Chg (fun _ => False) w w' := by
 have hC := ((Chg.refl (fun _ => False) w).alloc (.cells #[J U 0, J U 0, J U 0, J U 0, J U 0, J U 0, J U 0, J U 0] 257)).alloc (.cells #[J I 0, J I 0, J I 0] 31)
 have O8 := Hi ((aA w #[J U 0, J U 0, J U 0, J U 0, J U 0, J U 0, J U 0, J U 0] 257).alloc (.cells #[J I 0, J I 0, J I 0] 31))
 have OF := Hi (aA (w.alloc (.cells #[J U 0, J U 0, J U 0, J U 0, J U 0, J U 0, J U 0, J U 0] 257)) #[J I 0, J I 0, J I 0] 31)
 obtain ⟨d, hd⟩ : ∃ d, w.heap.size = d := ⟨_, rfl⟩
 have HDe := Hi hd
 rw [show (w.alloc (.cells #[J U 0, J U 0, J U 0, J U 0, J U 0, J U 0, J U 0, J U 0] 257)).heap.size = d + 1 by rw [← hd]; simp] at OF
 rw [hd] at O8
 have lN := h.lt
 have lP := hp.lt
 have lB := hp.buf.lt
 have lg := hp.buf.glt hp.opn
 rw [hd] at lN lP lB lg
 have HN := Hi (hC.obj h (fun h => h))
 have HP := Hi (hp.chg hC (fun h => h) (fun h => h) (fun h => h))
 have CH := Hi hC
 have lz : ((w.alloc (.cells #[J U 0, J U 0, J U 0, J U 0, J U 0, J U 0, J U 0, J U 0] 257)).alloc (.cells #[J I 0, J I 0, J I 0] 31)).heap.size = d + 2 := by rw [← hd]; simp
 have i0 : ∀ w, (Instr.index 271 (.agg #[J I (v / 16), J I (v % 16)]) (J I 0)).run Tryz.prog w = .ok (J I (v / 16)) w := fun _ => by kernel_rfl
 have i1 : ∀ w, (Instr.index 271 (.agg #[J I (v / 16), J I (v % 16)]) (J I 1)).run Tryz.prog w = .ok (J I (v % 16)) w := fun _ => by kernel_rfl
 obtain ⟨y00, hy00⟩ : ∃ y, aG (p.ent ((v / 16)).toNat) 0 = y := ⟨_, rfl⟩
 obtain ⟨y01, hy01⟩ : ∃ y, aG (p.ent ((v / 16)).toNat) 1 = y := ⟨_, rfl⟩
 obtain ⟨y02, hy02⟩ : ∃ y, aG (p.ent ((v / 16)).toNat) 2 = y := ⟨_, rfl⟩
 obtain ⟨y03, hy03⟩ : ∃ y, aG (p.ent ((v / 16)).toNat) 3 = y := ⟨_, rfl⟩
 have HOF0 := Hi (fun w0 (hA : PalAt w0 n.P p) => (pof_any n.P p (v / 16) w0 hA).mono (R' := fun e w' => e = .returned (.tuple #[.agg #[J U y00, J U y01, J U y02, J U y03], .bool true]) ∧ Chg (fun _ => False) w0 w') fun e w' hh => by
  rw [h0, if_pos rfl] at hh; unfold colS4 at hh; rw [hy00, hy01, hy02, hy03] at hh; exact hh)
 obtain ⟨y10, hy10⟩ : ∃ y, aG (p.ent ((v % 16)).toNat) 0 = y := ⟨_, rfl⟩
 obtain ⟨y11, hy11⟩ : ∃ y, aG (p.ent ((v % 16)).toNat) 1 = y := ⟨_, rfl⟩
 obtain ⟨y12, hy12⟩ : ∃ y, aG (p.ent ((v % 16)).toNat) 2 = y := ⟨_, rfl⟩
 obtain ⟨y13, hy13⟩ : ∃ y, aG (p.ent ((v % 16)).toNat) 3 = y := ⟨_, rfl⟩
 have HOF1 := Hi (fun w0 (hA : PalAt w0 n.P p) => (pof_any n.P p (v % 16) w0 hA).mono (R' := fun e w' => e = .returned (.tuple #[.agg #[J U y10, J U y11, J U y12, J U y13], .bool true]) ∧ Chg (fun _ => False) w0 w') fun e w' hh => by
  rw [h1, if_pos rfl] at hh; unfold colS4 at hh; rw [hy10, hy11, hy12, hy13] at hh; exact hh)
 have HV := Hi (show aq p (v / 16) (v % 16) n.f a = .tuple #[.agg (List.toArray [J U y00, J U y01, J U y02, J U y03, J U y10, J U y11, J U y12, J U y13]), flt 0 0 0] by
  unfold aq; rw [if_neg (by rw [h0]; decide), if_neg (by rw [h1]; decide)]; subst hy00 hy01 hy02 hy03 hy10 hy11 hy12 hy13; rfl)
 rw [HV.out]
 clear hy00 hy01 hy02 hy03 hy10 hy11 hy12 hy13
 go_enter Tryz.func187, Tryz.ntmps187
 go_upto_region 1 with (fail)
 clear hC hd
 generalize World.alloc _ _ = wr at OF O8 CH HN HP lz ⊢
 have O2 := Hi (aA wr #[J I 0, J I 0] 271)
 rw [lz] at O2
 have OF := Hi (OF.out.alloc (.cells #[J I 0, J I 0] 271))
 have O8 := Hi (O8.out.alloc (.cells #[J I 0, J I 0] 271))
 have HN := Hi (HN.out.alloc (.cells #[J I 0, J I 0] 271))
 have hc2 := (Chg.refl (fun _ => False) wr).alloc (.cells #[J I 0, J I 0] 271)
 have HP := Hi (HP.out.chg hc2 (fun h => h) (fun h => h) (fun h => h))
 have CH := Hi (CH.out.trans hc2)
 clear hc2
 go_upto_region 2 with (refine so 271 2 (d + 2) [J I v, J I v] O2.out ?_; intro ws hst hO; have O2 := Hi hO; have hcs := Stored.chgS (S := fun k => k = d + 2) hst (Chg.refl _ _) (Or.inl rfl); have CH := Hi (Stored.chgS hst CH.out (Or.inr (by have := HDe.out; omega))))
 have OF := Hi (hcs.obj OF.out (show ¬ d + 1 = d + 2 by omega))
 have O8 := Hi (hcs.obj O8.out (show ¬ d = d + 2 by omega))
 have HN := Hi (hcs.obj HN.out (show ¬ N = d + 2 by omega))
 have HP := Hi (HP.out.chg hcs (show ¬ n.P = d + 2 by omega) (show ¬ p.B = d + 2 by omega) (show ¬ p.b.g = d + 2 by omega))
 clear hcs hst hO lz
 have k5 := (HN.out.cell 5).trans (show _ = some (J I 4) by show some (Value.int .i64 (n.dp : Int)) = _; rw [hd8] <;> rfl)
 have k17 := (HN.out.cell 17).trans (show _ = some (Y (some ⟨n.P, 0, none⟩)) from rfl)
 have r0 : bits .and .i64 v 15 = v % 16 := i64_and_mask v 4 (by decide)
 have hv0 := hv.1
 go_upto_region 4 with (first
  | (refine so 271 2 (d + 2) [J I (v / 16), J I (v % 16)] O2.out ?_; intro ws hst hO; have O2 := Hi hO; have hcs := Stored.chgS (S := fun k => k = d + 2) hst (Chg.refl _ _) (Or.inl rfl); have CH := Hi (Stored.chgS hst CH.out (Or.inr (by have := HDe.out; omega)))))
 have OF := Hi (hcs.obj OF.out (show ¬ d + 1 = d + 2 by omega))
 have O8 := Hi (hcs.obj O8.out (show ¬ d = d + 2 by omega))
 have HN := Hi (hcs.obj HN.out (show ¬ N = d + 2 by omega))
 have HP := Hi (HP.out.chg hcs (show ¬ n.P = d + 2 by omega) (show ¬ p.B = d + 2 by omega) (show ¬ p.b.g = d + 2 by omega))
 clear hcs hst hO k5 k17 r0
 have c20 := (O2.out.cell 0).trans (show _ = some (J I (v / 16)) from rfl)
 have c21 := (O2.out.cell 1).trans (show _ = some (J I (v % 16)) from rfl)
 go_wp2_with (fail)
 clear c20 c21
 refine wp_loop_rounds 3 ?_
 rw [rounds_succ]
 go_upto_region 6 with (fail)
 have k17 := (HN.out.cell 17).trans (show _ = some (Y (some ⟨n.P, 0, none⟩)) from rfl)
 go_upto_region 8 with (fail)
 with_reducible refine (HOF0.out _ HP.out).mono ?_
 rintro e6 w6 ⟨rfl, hc6⟩
 have OF := Hi (hc6.obj OF.out (fun h => h))
 have O8 := Hi (hc6.obj O8.out (fun h => h))
 have HN := Hi (hc6.obj HN.out (fun h => h))
 have HP := Hi (HP.out.chg hc6 (fun h => h) (fun h => h) (fun h => h))
 have CH := Hi (CH.out.trans hc6)
 have lz6 := OF.out.lt
 clear hc6 k17
 obtain ⟨dC, hdC⟩ : ∃ dC, w6.heap.size = dC := ⟨_, rfl⟩
 have O4 := Hi (aA w6 #[J U 0, J U 0, J U 0, J U 0] 104)
 rw [hdC] at O4 lz6
 go_upto_region 8 with (refine so 104 4 dC [J U y00, J U y01, J U y02, J U y03] O4.out ?_; intro ws hst hO; have O4 := Hi hO; have hcs := Stored.chgS (S := fun k => k = dC) hst ((Chg.refl (fun k => k = dC) w6).alloc _) (Or.inl rfl))
 have OF := Hi (hcs.obj OF.out (show ¬ d + 1 = dC by omega))
 have O8 := Hi (hcs.obj O8.out (show ¬ d = dC by omega))
 have HN := Hi (hcs.obj HN.out (show ¬ N = dC by omega))
 have HP := Hi (HP.out.chg hcs (show ¬ n.P = dC by omega) (show ¬ p.B = dC by omega) (show ¬ p.b.g = dC by omega))
 have CH := Hi (Chg.after CH.out hcs (fun k hk hk2 => by have := HDe.out; have : k = dC := hk2; omega))
 clear hcs hst hO hdC
 have q0 := (O4.out.cell 0).trans (show _ = some (J U y00) from rfl)
 have q1 := (O4.out.cell 1).trans (show _ = some (J U y01) from rfl)
 have q2 := (O4.out.cell 2).trans (show _ = some (J U y02) from rfl)
 have q3 := (O4.out.cell 3).trans (show _ = some (J U y03) from rfl)
 go_upto_region 11 with (refine store_a rfl 104 _ _ rfl d 0 [J U y00, J U y01, J U y02, J U y03] rfl (by kernel_rfl) (by kernel_rfl) (by kernel_rfl) O8.out (by simp) ?_; intro ws hst hO; have O8 := Hi (hO.cells (show _ = (List.toArray [J U y00, J U y01, J U y02, J U y03, J U 0, J U 0, J U 0, J U 0]) from by kernel_rfl)); have hcs := Stored.chgS (S := fun k => k = d) hst (Chg.refl _ _) (Or.inl rfl))
 have OF := Hi (hcs.obj OF.out (show ¬ d + 1 = d by omega))
 have HN := Hi (hcs.obj HN.out (show ¬ N = d by omega))
 have HP := Hi (HP.out.chg hcs (show ¬ n.P = d by omega) (show ¬ p.B = d by omega) (show ¬ p.b.g = d by omega))
 have CH := Hi (Chg.after CH.out hcs (fun k hk hk2 => by have := HDe.out; have : k = d := hk2; omega))
 clear hcs hst hO q0 q1 q2 q3 lz6 O4
 go_wp2_with (fail)
 rw [rounds_succ]
 go_upto_region 6 with (fail)
 have k17 := (HN.out.cell 17).trans (show _ = some (Y (some ⟨n.P, 0, none⟩)) from rfl)
 go_upto_region 8 with (fail)
 with_reducible refine (HOF1.out _ HP.out).mono ?_
 rintro e6 w6 ⟨rfl, hc6⟩
 have OF := Hi (hc6.obj OF.out (fun h => h))
 have O8 := Hi (hc6.obj O8.out (fun h => h))
 have HN := Hi (hc6.obj HN.out (fun h => h))
 have HP := Hi (HP.out.chg hc6 (fun h => h) (fun h => h) (fun h => h))
 have CH := Hi (CH.out.trans hc6)
 have lz6 := OF.out.lt
 clear hc6 k17
 obtain ⟨dC, hdC⟩ : ∃ dC, w6.heap.size = dC := ⟨_, rfl⟩
 have O4 := Hi (aA w6 #[J U 0, J U 0, J U 0, J U 0] 104)
 rw [hdC] at O4 lz6
 go_upto_region 8 with (refine so 104 4 dC [J U y10, J U y11, J U y12, J U y13] O4.out ?_; intro ws hst hO; have O4 := Hi hO; have hcs := Stored.chgS (S := fun k => k = dC) hst ((Chg.refl (fun k => k = dC) w6).alloc _) (Or.inl rfl))
 have OF := Hi (hcs.obj OF.out (show ¬ d + 1 = dC by omega))
 have O8 := Hi (hcs.obj O8.out (show ¬ d = dC by omega))
 have HN := Hi (hcs.obj HN.out (show ¬ N = dC by omega))
 have HP := Hi (HP.out.chg hcs (show ¬ n.P = dC by omega) (show ¬ p.B = dC by omega) (show ¬ p.b.g = dC by omega))
 have CH := Hi (Chg.after CH.out hcs (fun k hk hk2 => by have := HDe.out; have : k = dC := hk2; omega))
 clear hcs hst hO hdC
 have q0 := (O4.out.cell 0).trans (show _ = some (J U y10) from rfl)
 have q1 := (O4.out.cell 1).trans (show _ = some (J U y11) from rfl)
 have q2 := (O4.out.cell 2).trans (show _ = some (J U y12) from rfl)
 have q3 := (O4.out.cell 3).trans (show _ = some (J U y13) from rfl)
 go_upto_region 11 with (refine store_a rfl 104 _ _ rfl d 4 [J U y10, J U y11, J U y12, J U y13] rfl (by kernel_rfl) (by kernel_rfl) (by kernel_rfl) O8.out (by simp) ?_; intro ws hst hO; have O8 := Hi (hO.cells (show _ = (List.toArray [J U y00, J U y01, J U y02, J U y03, J U y10, J U y11, J U y12, J U y13]) from by kernel_rfl)); have hcs := Stored.chgS (S := fun k => k = d) hst (Chg.refl _ _) (Or.inl rfl))
 have OF := Hi (hcs.obj OF.out (show ¬ d + 1 = d by omega))
 have HN := Hi (hcs.obj HN.out (show ¬ N = d by omega))
 have HP := Hi (HP.out.chg hcs (show ¬ n.P = d by omega) (show ¬ p.B = d by omega) (show ¬ p.b.g = d by omega))
 have CH := Hi (Chg.after CH.out hcs (fun k hk hk2 => by have := HDe.out; have : k = d := hk2; omega))
 clear hcs hst hO q0 q1 q2 q3 lz6 O4
 go_wp2_with (fail)
 rw [rounds_succ]
 go_upto_region 12 with (fail)
 have o0 := (O8.out.cell 0).trans (show _ = some (J U y00) from rfl)
 have o1 := (O8.out.cell 1).trans (show _ = some (J U y01) from rfl)
 have o2 := (O8.out.cell 2).trans (show _ = some (J U y02) from rfl)
 have o3 := (O8.out.cell 3).trans (show _ = some (J U y03) from rfl)
 have o4 := (O8.out.cell 4).trans (show _ = some (J U y10) from rfl)
 have o5 := (O8.out.cell 5).trans (show _ = some (J U y11) from rfl)
 have o6 := (O8.out.cell 6).trans (show _ = some (J U y12) from rfl)
 have o7 := (O8.out.cell 7).trans (show _ = some (J U y13) from rfl)
 go_wp2_with (first
  | (refine so 257 8 d [J U y00, J U y01, J U y02, J U y03, J U y10, J U y11, J U y12, J U y13] O8.out ?_; intro ws hst hO; have O8 := Hi hO; have OF := Hi (hst.oth OF.out (by omega)); have CH := Hi (Stored.chgS hst CH.out (Or.inr (by have := HDe.out; omega))); clear hst hO)
  | (refine so 31 3 (d + 1) [J I 0, J I 0, J I 0] OF.out ?_; intro ws hst hO; have OF := Hi hO; have O8 := Hi (hst.oth O8.out (by omega)); have CH := Hi (Stored.chgS hst CH.out (Or.inr (by have := HDe.out; omega))); clear hst hO))
 refine bodyPost_ret (v := .tuple #[.agg (List.toArray [J U y00, J U y01, J U y02, J U y03, J U y10, J U y11, J U y12, J U y13]), .agg (List.toArray [J I 0, J I 0, J I 0])]) ?_ rfl ⟨rfl, CH.out⟩
 exact aQ Tryz.results187 _ _ _ _ [J U y00, J U y01, J U y02, J U y03, J U y10, J U y11, J U y12, J U y13] [J I 0, J I 0, J I 0] _ _ rfl O8.out.range0 Tryz.underlying257 rfl (by kernel_rfl) rfl OF.out.range0 Tryz.underlying31 rfl (by kernel_rfl)
theorem ppair_4f (N : Nat) (n : Pn) (p : Pal) (v a : Int) (w : World) (h : PnAt w N n) (hp : PalAt w n.P p) (hd8 : n.dp = 4) (h0 : p.has (v / 16) = false) (hv : 0 ≤ v ∧ v < 256) : Calls Tryz.prog 187 #[Y (some ⟨N, 0, none⟩), J I v, J I a] w fun e w' =>
 e = .returned (aq p (v / 16) (v % 16) n.f a) ∧ Chg (fun _ => False) w w' := by
 have hC := ((Chg.refl (fun _ => False) w).alloc (.cells #[J U 0, J U 0, J U 0, J U 0, J U 0, J U 0, J U 0, J U 0] 257)).alloc (.cells #[J I 0, J I 0, J I 0] 31)
 have O8 := Hi ((aA w #[J U 0, J U 0, J U 0, J U 0, J U 0, J U 0, J U 0, J U 0] 257).alloc (.cells #[J I 0, J I 0, J I 0] 31))
 have OF := Hi (aA (w.alloc (.cells #[J U 0, J U 0, J U 0, J U 0, J U 0, J U 0, J U 0, J U 0] 257)) #[J I 0, J I 0, J I 0] 31)
 obtain ⟨d, hd⟩ : ∃ d, w.heap.size = d := ⟨_, rfl⟩
 have HDe := Hi hd
 rw [show (w.alloc (.cells #[J U 0, J U 0, J U 0, J U 0, J U 0, J U 0, J U 0, J U 0] 257)).heap.size = d + 1 by rw [← hd]; simp] at OF
 rw [hd] at O8
 have lN := h.lt
 have lP := hp.lt
 have lB := hp.buf.lt
 have lg := hp.buf.glt hp.opn
 rw [hd] at lN lP lB lg
 have HN := Hi (hC.obj h (fun h => h))
 have HP := Hi (hp.chg hC (fun h => h) (fun h => h) (fun h => h))
 have CH := Hi hC
 have lz : ((w.alloc (.cells #[J U 0, J U 0, J U 0, J U 0, J U 0, J U 0, J U 0, J U 0] 257)).alloc (.cells #[J I 0, J I 0, J I 0] 31)).heap.size = d + 2 := by rw [← hd]; simp
 have i0 : ∀ w, (Instr.index 271 (.agg #[J I (v / 16), J I (v % 16)]) (J I 0)).run Tryz.prog w = .ok (J I (v / 16)) w := fun _ => by kernel_rfl
 have i1 : ∀ w, (Instr.index 271 (.agg #[J I (v / 16), J I (v % 16)]) (J I 1)).run Tryz.prog w = .ok (J I (v % 16)) w := fun _ => by kernel_rfl
 have HOF0 := Hi (fun w0 (hA : PalAt w0 n.P p) => (pof_any n.P p (v / 16) w0 hA).mono (R' := fun e w' => e = .returned (.tuple #[.agg #[J U 0, J U 0, J U 0, J U 0], .bool false]) ∧ Chg (fun _ => False) w0 w') fun e w' hh => by
  rw [h0, if_neg (by decide)] at hh; unfold colZ4 at hh; exact hh)
 obtain ⟨f, hf⟩ : ∃ f, n.f = f := ⟨_, rfl⟩
 have HWR := Hi (fun w0 (h0 : PnAt w0 N n) => (pwrong_any N n a w0 h0).mono (R' := fun e w' => e = .returned (.agg (List.toArray [J I 2, J I f, J I a])) ∧ Below w0.heap.size w0 w') fun e w' hh => by unfold flt at hh; rw [hf] at hh; exact hh)
 have HV := Hi (show aq p (v / 16) (v % 16) n.f a = .tuple #[.agg (List.toArray [J U 0, J U 0, J U 0, J U 0, J U 0, J U 0, J U 0, J U 0]), flt 2 f a] by
  unfold aq; rw [if_pos h0]; subst hf; rfl)
 rw [HV.out]
 clear hf
 go_enter Tryz.func187, Tryz.ntmps187
 go_upto_region 1 with (fail)
 clear hC hd
 generalize World.alloc _ _ = wr at OF O8 CH HN HP lz ⊢
 have O2 := Hi (aA wr #[J I 0, J I 0] 271)
 rw [lz] at O2
 have OF := Hi (OF.out.alloc (.cells #[J I 0, J I 0] 271))
 have O8 := Hi (O8.out.alloc (.cells #[J I 0, J I 0] 271))
 have HN := Hi (HN.out.alloc (.cells #[J I 0, J I 0] 271))
 have hc2 := (Chg.refl (fun _ => False) wr).alloc (.cells #[J I 0, J I 0] 271)
 have HP := Hi (HP.out.chg hc2 (fun h => h) (fun h => h) (fun h => h))
 have CH := Hi (CH.out.trans hc2)
 clear hc2
 go_upto_region 2 with (refine so 271 2 (d + 2) [J I v, J I v] O2.out ?_; intro ws hst hO; have O2 := Hi hO; have hcs := Stored.chgS (S := fun k => k = d + 2) hst (Chg.refl _ _) (Or.inl rfl); have CH := Hi (Stored.chgS hst CH.out (Or.inr (by have := HDe.out; omega))))
 have OF := Hi (hcs.obj OF.out (show ¬ d + 1 = d + 2 by omega))
 have O8 := Hi (hcs.obj O8.out (show ¬ d = d + 2 by omega))
 have HN := Hi (hcs.obj HN.out (show ¬ N = d + 2 by omega))
 have HP := Hi (HP.out.chg hcs (show ¬ n.P = d + 2 by omega) (show ¬ p.B = d + 2 by omega) (show ¬ p.b.g = d + 2 by omega))
 clear hcs hst hO lz
 have k5 := (HN.out.cell 5).trans (show _ = some (J I 4) by show some (Value.int .i64 (n.dp : Int)) = _; rw [hd8] <;> rfl)
 have k17 := (HN.out.cell 17).trans (show _ = some (Y (some ⟨n.P, 0, none⟩)) from rfl)
 have r0 : bits .and .i64 v 15 = v % 16 := i64_and_mask v 4 (by decide)
 have hv0 := hv.1
 go_upto_region 4 with (first
  | (refine so 271 2 (d + 2) [J I (v / 16), J I (v % 16)] O2.out ?_; intro ws hst hO; have O2 := Hi hO; have hcs := Stored.chgS (S := fun k => k = d + 2) hst (Chg.refl _ _) (Or.inl rfl); have CH := Hi (Stored.chgS hst CH.out (Or.inr (by have := HDe.out; omega)))))
 have OF := Hi (hcs.obj OF.out (show ¬ d + 1 = d + 2 by omega))
 have O8 := Hi (hcs.obj O8.out (show ¬ d = d + 2 by omega))
 have HN := Hi (hcs.obj HN.out (show ¬ N = d + 2 by omega))
 have HP := Hi (HP.out.chg hcs (show ¬ n.P = d + 2 by omega) (show ¬ p.B = d + 2 by omega) (show ¬ p.b.g = d + 2 by omega))
 clear hcs hst hO k5 k17 r0
 have c20 := (O2.out.cell 0).trans (show _ = some (J I (v / 16)) from rfl)
 have c21 := (O2.out.cell 1).trans (show _ = some (J I (v % 16)) from rfl)
 go_wp2_with (fail)
 clear c20 c21
 refine wp_loop_rounds 3 ?_
 rw [rounds_succ]
 go_upto_region 6 with (fail)
 have k17 := (HN.out.cell 17).trans (show _ = some (Y (some ⟨n.P, 0, none⟩)) from rfl)
 go_upto_region 8 with (fail)
 with_reducible refine (HOF0.out _ HP.out).mono ?_
 rintro e6 w6 ⟨rfl, hc6⟩
 have OF := Hi (hc6.obj OF.out (fun h => h))
 have O8 := Hi (hc6.obj O8.out (fun h => h))
 have HN := Hi (hc6.obj HN.out (fun h => h))
 have HP := Hi (HP.out.chg hc6 (fun h => h) (fun h => h) (fun h => h))
 have CH := Hi (CH.out.trans hc6)
 have lz6 := OF.out.lt
 clear hc6 k17
 obtain ⟨dC, hdC⟩ : ∃ dC, w6.heap.size = dC := ⟨_, rfl⟩
 have O4 := Hi (aA w6 #[J U 0, J U 0, J U 0, J U 0] 104)
 rw [hdC] at O4 lz6
 go_upto_region 8 with (refine so 104 4 dC [J U 0, J U 0, J U 0, J U 0] O4.out ?_; intro ws hst hO; have O4 := Hi hO; have hcs := Stored.chgS (S := fun k => k = dC) hst ((Chg.refl (fun k => k = dC) w6).alloc _) (Or.inl rfl))
 have OF := Hi (hcs.obj OF.out (show ¬ d + 1 = dC by omega))
 have O8 := Hi (hcs.obj O8.out (show ¬ d = dC by omega))
 have HN := Hi (hcs.obj HN.out (show ¬ N = dC by omega))
 have HP := Hi (HP.out.chg hcs (show ¬ n.P = dC by omega) (show ¬ p.B = dC by omega) (show ¬ p.b.g = dC by omega))
 have CH := Hi (Chg.after CH.out hcs (fun k hk hk2 => by have := HDe.out; have : k = dC := hk2; omega))
 clear hcs hst hO hdC
 go_upto_region 9 with (fail)
 refine wp_region_noPanic ?_
 refine wp_region_held_drew (S := fun w' => Obj1 w' d (List.toArray [J U 0, J U 0, J U 0, J U 0, J U 0, J U 0, J U 0, J U 0]) 257 ∧ Chg (fun k => k = d ∨ k = d + 1) ws w') (by kernel_rfl) ⟨O8.out.drew, (Chg.refl _ _).drew⟩ (fun hHeld => ?_)
 refine zl 0 257 (d) (0) ([J U 0, J U 0, J U 0, J U 0, J U 0, J U 0, J U 0, J U 0]) rfl (fun w hS => hS.1.range0) Tryz.underlying257 hHeld ?_
 refine za 1 (Y (some ⟨N, 0, none⟩)) rfl hHeld ?_
 refine za 2 (J I a) rfl hHeld ?_
 have hS := (show (fun w' => Obj1 w' d (List.toArray [J U 0, J U 0, J U 0, J U 0, J U 0, J U 0, J U 0, J U 0]) 257 ∧ Chg (fun k => k = d ∨ k = d + 1) ws w') (World.drew ws) from ⟨O8.out.drew, (Chg.refl _ _).drew⟩)
 have hF := (Chg.refl (fun _ => False) ws).drew
 generalize World.drew _ = wk at hS hF ⊢
 refine wpAnyH_ready (rs := [3]) (by kernel_rfl) (by simp) ?_
 refine AllReadyH.cons (o := _) rfl (fun K' hK => ?_) AllReadyH.nil
 go_simp
 with_reducible refine (HWR.out _ (hF.obj HN.out (fun h => h))).mono ?_
 rintro e7 w7 ⟨rfl, hb7⟩
 go_wp2_with fail
 have hF := hF.trans (aB hb7 _)
 have OF := Hi (hF.obj OF.out (fun h => h))
 have O8 := Hi (hF.obj O8.out (fun h => h))
 have CH := Hi (CH.out.trans hF)
 have hS := (show (fun w' => Obj1 w' d (List.toArray [J U 0, J U 0, J U 0, J U 0, J U 0, J U 0, J U 0, J U 0]) 257 ∧ Chg (fun k => k = d ∨ k = d + 1) ws w') w7 from ⟨O8.out, hS.2.trans (aB hb7 _)⟩)
 refine hK _ _ hS (fun hH2 => ?_)
 clear hK K' hb7 hF
 try simp only [Act.put, zq1, zq2, zq3, zq4, zq5, zq6]
 refine wpAnyH_ready (rs := [4]) (by kernel_rfl) (by simp) ?_
 refine AllReadyH.cons (o := _) rfl (fun K' hK => ?_) AllReadyH.nil
 rw [if_pos (by rfl)]
 refine wp_store_mid 257 _ _ rfl (d) 0 (List.toArray [J U 0, J U 0, J U 0, J U 0, J U 0, J U 0, J U 0, J U 0]) rfl rfl (by have := O8.out.there 0 8 (by simp); simpa using this) (by kernel_rfl) (all_oneCell_toArray (List.all_eq_true.1 (by rfl))) ?_
 simp only [Act.put, zq1, zq2, zq3, zq4, zq5, zq6]
 have hst : Stored w7 d 0 [J U 0, J U 0, J U 0, J U 0, J U 0, J U 0, J U 0, J U 0] (w7.setCells d 0 [J U 0, J U 0, J U 0, J U 0, J U 0, J U 0, J U 0, J U 0]) := rfl
 have O8 := Hi (hst.whole O8.out rfl)
 have OF := Hi (hst.oth OF.out (by omega))
 have CH := Hi (Stored.chgS hst CH.out (Or.inr (by have := HDe.out; omega)))
 have hS := (show (fun w' => Obj1 w' d (List.toArray [J U 0, J U 0, J U 0, J U 0, J U 0, J U 0, J U 0, J U 0]) 257 ∧ Chg (fun k => k = d ∨ k = d + 1) ws w') (w7.setCells d 0 [J U 0, J U 0, J U 0, J U 0, J U 0, J U 0, J U 0, J U 0]) from ⟨O8.out, Stored.chgS hst hS.2 (Or.inl (Or.inl rfl))⟩)
 generalize World.setCells _ _ _ _ = w8 at O8 OF CH hS ⊢
 clear hst
 refine hK _ _ hS (fun hH3 => ?_)
 clear hK K'
 refine wpAnyH_ready (rs := [5]) (by kernel_rfl) (by simp) ?_
 refine AllReadyH.cons (o := _) rfl (fun K' hK => ?_) AllReadyH.nil
 rw [if_pos (by rfl)]
 refine wp_store_mid 31 _ _ rfl (d + 1) 0 (List.toArray [J I 2, J I f, J I a]) rfl rfl (by have := OF.out.there 0 3 (by simp); simpa using this) (by kernel_rfl) (all_oneCell_toArray (List.all_eq_true.1 (by rfl))) ?_
 simp only [Act.put, zq1, zq2, zq3, zq4, zq5, zq6]
 have hst : Stored w8 (d + 1) 0 [J I 2, J I f, J I a] (w8.setCells (d + 1) 0 [J I 2, J I f, J I a]) := rfl
 have OF := Hi (hst.whole OF.out rfl)
 have O8 := Hi (hst.oth O8.out (by omega))
 have CH := Hi (Stored.chgS hst CH.out (Or.inr (by have := HDe.out; omega)))
 have hS := (show (fun w' => Obj1 w' d (List.toArray [J U 0, J U 0, J U 0, J U 0, J U 0, J U 0, J U 0, J U 0]) 257 ∧ Chg (fun k => k = d ∨ k = d + 1) ws w') (w8.setCells (d + 1) 0 [J I 2, J I f, J I a]) from ⟨O8.out, Stored.chgS hst hS.2 (Or.inl (Or.inr rfl))⟩)
 generalize World.setCells _ _ _ _ = w9 at O8 OF CH hS ⊢
 clear hst
 refine hK _ _ hS (fun hH4 => ?_)
 clear hK K'
 refine wpAnyH_done (by kernel_rfl) ?_ _
 refine NoPanic.normal ?_
 go_wp2_with fail
 refine bodyPost_ret (v := .tuple #[.agg (List.toArray [J U 0, J U 0, J U 0, J U 0, J U 0, J U 0, J U 0, J U 0]), .agg (List.toArray [J I 2, J I f, J I a])]) ?_ rfl ⟨rfl, CH.out⟩
 exact aQ Tryz.results187 _ _ _ _ [J U 0, J U 0, J U 0, J U 0, J U 0, J U 0, J U 0, J U 0] [J I 2, J I f, J I a] _ _ rfl O8.out.range0 Tryz.underlying257 rfl (by kernel_rfl) rfl OF.out.range0 Tryz.underlying31 rfl (by kernel_rfl)
theorem ppair_4h (N : Nat) (n : Pn) (p : Pal) (v a : Int) (w : World) (h : PnAt w N n) (hp : PalAt w n.P p) (hd8 : n.dp = 4) (h0 : p.has (v / 16) = true) (h1 : p.has (v % 16) = false) (hv : 0 ≤ v ∧ v < 256) : Calls Tryz.prog 187 #[Y (some ⟨N, 0, none⟩), J I v, J I a] w fun e w' =>
 e = .returned (aq p (v / 16) (v % 16) n.f a) ∧ Chg (fun _ => False) w w' := by
 have hC := ((Chg.refl (fun _ => False) w).alloc (.cells #[J U 0, J U 0, J U 0, J U 0, J U 0, J U 0, J U 0, J U 0] 257)).alloc (.cells #[J I 0, J I 0, J I 0] 31)
 have O8 := Hi ((aA w #[J U 0, J U 0, J U 0, J U 0, J U 0, J U 0, J U 0, J U 0] 257).alloc (.cells #[J I 0, J I 0, J I 0] 31))
 have OF := Hi (aA (w.alloc (.cells #[J U 0, J U 0, J U 0, J U 0, J U 0, J U 0, J U 0, J U 0] 257)) #[J I 0, J I 0, J I 0] 31)
 obtain ⟨d, hd⟩ : ∃ d, w.heap.size = d := ⟨_, rfl⟩
 have HDe := Hi hd
 rw [show (w.alloc (.cells #[J U 0, J U 0, J U 0, J U 0, J U 0, J U 0, J U 0, J U 0] 257)).heap.size = d + 1 by rw [← hd]; simp] at OF
 rw [hd] at O8
 have lN := h.lt
 have lP := hp.lt
 have lB := hp.buf.lt
 have lg := hp.buf.glt hp.opn
 rw [hd] at lN lP lB lg
 have HN := Hi (hC.obj h (fun h => h))
 have HP := Hi (hp.chg hC (fun h => h) (fun h => h) (fun h => h))
 have CH := Hi hC
 have lz : ((w.alloc (.cells #[J U 0, J U 0, J U 0, J U 0, J U 0, J U 0, J U 0, J U 0] 257)).alloc (.cells #[J I 0, J I 0, J I 0] 31)).heap.size = d + 2 := by rw [← hd]; simp
 have i0 : ∀ w, (Instr.index 271 (.agg #[J I (v / 16), J I (v % 16)]) (J I 0)).run Tryz.prog w = .ok (J I (v / 16)) w := fun _ => by kernel_rfl
 have i1 : ∀ w, (Instr.index 271 (.agg #[J I (v / 16), J I (v % 16)]) (J I 1)).run Tryz.prog w = .ok (J I (v % 16)) w := fun _ => by kernel_rfl
 obtain ⟨y00, hy00⟩ : ∃ y, aG (p.ent ((v / 16)).toNat) 0 = y := ⟨_, rfl⟩
 obtain ⟨y01, hy01⟩ : ∃ y, aG (p.ent ((v / 16)).toNat) 1 = y := ⟨_, rfl⟩
 obtain ⟨y02, hy02⟩ : ∃ y, aG (p.ent ((v / 16)).toNat) 2 = y := ⟨_, rfl⟩
 obtain ⟨y03, hy03⟩ : ∃ y, aG (p.ent ((v / 16)).toNat) 3 = y := ⟨_, rfl⟩
 have HOF0 := Hi (fun w0 (hA : PalAt w0 n.P p) => (pof_any n.P p (v / 16) w0 hA).mono (R' := fun e w' => e = .returned (.tuple #[.agg #[J U y00, J U y01, J U y02, J U y03], .bool true]) ∧ Chg (fun _ => False) w0 w') fun e w' hh => by
  rw [h0, if_pos rfl] at hh; unfold colS4 at hh; rw [hy00, hy01, hy02, hy03] at hh; exact hh)
 have HOF1 := Hi (fun w0 (hA : PalAt w0 n.P p) => (pof_any n.P p (v % 16) w0 hA).mono (R' := fun e w' => e = .returned (.tuple #[.agg #[J U 0, J U 0, J U 0, J U 0], .bool false]) ∧ Chg (fun _ => False) w0 w') fun e w' hh => by
  rw [h1, if_neg (by decide)] at hh; unfold colZ4 at hh; exact hh)
 obtain ⟨f, hf⟩ : ∃ f, n.f = f := ⟨_, rfl⟩
 have HWR := Hi (fun w0 (h0 : PnAt w0 N n) => (pwrong_any N n a w0 h0).mono (R' := fun e w' => e = .returned (.agg (List.toArray [J I 2, J I f, J I a])) ∧ Below w0.heap.size w0 w') fun e w' hh => by unfold flt at hh; rw [hf] at hh; exact hh)
 have HV := Hi (show aq p (v / 16) (v % 16) n.f a = .tuple #[.agg (List.toArray [J U y00, J U y01, J U y02, J U y03, J U 0, J U 0, J U 0, J U 0]), flt 2 f a] by
  unfold aq; rw [if_neg (by rw [h0]; decide), if_pos h1]; subst hy00 hy01 hy02 hy03; subst hf; rfl)
 rw [HV.out]
 clear hy00 hy01 hy02 hy03
 clear hf
 go_enter Tryz.func187, Tryz.ntmps187
 go_upto_region 1 with (fail)
 clear hC hd
 generalize World.alloc _ _ = wr at OF O8 CH HN HP lz ⊢
 have O2 := Hi (aA wr #[J I 0, J I 0] 271)
 rw [lz] at O2
 have OF := Hi (OF.out.alloc (.cells #[J I 0, J I 0] 271))
 have O8 := Hi (O8.out.alloc (.cells #[J I 0, J I 0] 271))
 have HN := Hi (HN.out.alloc (.cells #[J I 0, J I 0] 271))
 have hc2 := (Chg.refl (fun _ => False) wr).alloc (.cells #[J I 0, J I 0] 271)
 have HP := Hi (HP.out.chg hc2 (fun h => h) (fun h => h) (fun h => h))
 have CH := Hi (CH.out.trans hc2)
 clear hc2
 go_upto_region 2 with (refine so 271 2 (d + 2) [J I v, J I v] O2.out ?_; intro ws hst hO; have O2 := Hi hO; have hcs := Stored.chgS (S := fun k => k = d + 2) hst (Chg.refl _ _) (Or.inl rfl); have CH := Hi (Stored.chgS hst CH.out (Or.inr (by have := HDe.out; omega))))
 have OF := Hi (hcs.obj OF.out (show ¬ d + 1 = d + 2 by omega))
 have O8 := Hi (hcs.obj O8.out (show ¬ d = d + 2 by omega))
 have HN := Hi (hcs.obj HN.out (show ¬ N = d + 2 by omega))
 have HP := Hi (HP.out.chg hcs (show ¬ n.P = d + 2 by omega) (show ¬ p.B = d + 2 by omega) (show ¬ p.b.g = d + 2 by omega))
 clear hcs hst hO lz
 have k5 := (HN.out.cell 5).trans (show _ = some (J I 4) by show some (Value.int .i64 (n.dp : Int)) = _; rw [hd8] <;> rfl)
 have k17 := (HN.out.cell 17).trans (show _ = some (Y (some ⟨n.P, 0, none⟩)) from rfl)
 have r0 : bits .and .i64 v 15 = v % 16 := i64_and_mask v 4 (by decide)
 have hv0 := hv.1
 go_upto_region 4 with (first
  | (refine so 271 2 (d + 2) [J I (v / 16), J I (v % 16)] O2.out ?_; intro ws hst hO; have O2 := Hi hO; have hcs := Stored.chgS (S := fun k => k = d + 2) hst (Chg.refl _ _) (Or.inl rfl); have CH := Hi (Stored.chgS hst CH.out (Or.inr (by have := HDe.out; omega)))))
 have OF := Hi (hcs.obj OF.out (show ¬ d + 1 = d + 2 by omega))
 have O8 := Hi (hcs.obj O8.out (show ¬ d = d + 2 by omega))
 have HN := Hi (hcs.obj HN.out (show ¬ N = d + 2 by omega))
 have HP := Hi (HP.out.chg hcs (show ¬ n.P = d + 2 by omega) (show ¬ p.B = d + 2 by omega) (show ¬ p.b.g = d + 2 by omega))
 clear hcs hst hO k5 k17 r0
 have c20 := (O2.out.cell 0).trans (show _ = some (J I (v / 16)) from rfl)
 have c21 := (O2.out.cell 1).trans (show _ = some (J I (v % 16)) from rfl)
 go_wp2_with (fail)
 clear c20 c21
 refine wp_loop_rounds 3 ?_
 rw [rounds_succ]
 go_upto_region 6 with (fail)
 have k17 := (HN.out.cell 17).trans (show _ = some (Y (some ⟨n.P, 0, none⟩)) from rfl)
 go_upto_region 8 with (fail)
 with_reducible refine (HOF0.out _ HP.out).mono ?_
 rintro e6 w6 ⟨rfl, hc6⟩
 have OF := Hi (hc6.obj OF.out (fun h => h))
 have O8 := Hi (hc6.obj O8.out (fun h => h))
 have HN := Hi (hc6.obj HN.out (fun h => h))
 have HP := Hi (HP.out.chg hc6 (fun h => h) (fun h => h) (fun h => h))
 have CH := Hi (CH.out.trans hc6)
 have lz6 := OF.out.lt
 clear hc6 k17
 obtain ⟨dC, hdC⟩ : ∃ dC, w6.heap.size = dC := ⟨_, rfl⟩
 have O4 := Hi (aA w6 #[J U 0, J U 0, J U 0, J U 0] 104)
 rw [hdC] at O4 lz6
 go_upto_region 8 with (refine so 104 4 dC [J U y00, J U y01, J U y02, J U y03] O4.out ?_; intro ws hst hO; have O4 := Hi hO; have hcs := Stored.chgS (S := fun k => k = dC) hst ((Chg.refl (fun k => k = dC) w6).alloc _) (Or.inl rfl))
 have OF := Hi (hcs.obj OF.out (show ¬ d + 1 = dC by omega))
 have O8 := Hi (hcs.obj O8.out (show ¬ d = dC by omega))
 have HN := Hi (hcs.obj HN.out (show ¬ N = dC by omega))
 have HP := Hi (HP.out.chg hcs (show ¬ n.P = dC by omega) (show ¬ p.B = dC by omega) (show ¬ p.b.g = dC by omega))
 have CH := Hi (Chg.after CH.out hcs (fun k hk hk2 => by have := HDe.out; have : k = dC := hk2; omega))
 clear hcs hst hO hdC
 have q0 := (O4.out.cell 0).trans (show _ = some (J U y00) from rfl)
 have q1 := (O4.out.cell 1).trans (show _ = some (J U y01) from rfl)
 have q2 := (O4.out.cell 2).trans (show _ = some (J U y02) from rfl)
 have q3 := (O4.out.cell 3).trans (show _ = some (J U y03) from rfl)
 go_upto_region 11 with (refine store_a rfl 104 _ _ rfl d 0 [J U y00, J U y01, J U y02, J U y03] rfl (by kernel_rfl) (by kernel_rfl) (by kernel_rfl) O8.out (by simp) ?_; intro ws hst hO; have O8 := Hi (hO.cells (show _ = (List.toArray [J U y00, J U y01, J U y02, J U y03, J U 0, J U 0, J U 0, J U 0]) from by kernel_rfl)); have hcs := Stored.chgS (S := fun k => k = d) hst (Chg.refl _ _) (Or.inl rfl))
 have OF := Hi (hcs.obj OF.out (show ¬ d + 1 = d by omega))
 have HN := Hi (hcs.obj HN.out (show ¬ N = d by omega))
 have HP := Hi (HP.out.chg hcs (show ¬ n.P = d by omega) (show ¬ p.B = d by omega) (show ¬ p.b.g = d by omega))
 have CH := Hi (Chg.after CH.out hcs (fun k hk hk2 => by have := HDe.out; have : k = d := hk2; omega))
 clear hcs hst hO q0 q1 q2 q3 lz6 O4
 go_wp2_with (fail)
 rw [rounds_succ]
 go_upto_region 6 with (fail)
 have k17 := (HN.out.cell 17).trans (show _ = some (Y (some ⟨n.P, 0, none⟩)) from rfl)
 go_upto_region 8 with (fail)
 with_reducible refine (HOF1.out _ HP.out).mono ?_
 rintro e6 w6 ⟨rfl, hc6⟩
 have OF := Hi (hc6.obj OF.out (fun h => h))
 have O8 := Hi (hc6.obj O8.out (fun h => h))
 have HN := Hi (hc6.obj HN.out (fun h => h))
 have HP := Hi (HP.out.chg hc6 (fun h => h) (fun h => h) (fun h => h))
 have CH := Hi (CH.out.trans hc6)
 have lz6 := OF.out.lt
 clear hc6 k17
 obtain ⟨dC, hdC⟩ : ∃ dC, w6.heap.size = dC := ⟨_, rfl⟩
 have O4 := Hi (aA w6 #[J U 0, J U 0, J U 0, J U 0] 104)
 rw [hdC] at O4 lz6
 go_upto_region 8 with (refine so 104 4 dC [J U 0, J U 0, J U 0, J U 0] O4.out ?_; intro ws hst hO; have O4 := Hi hO; have hcs := Stored.chgS (S := fun k => k = dC) hst ((Chg.refl (fun k => k = dC) w6).alloc _) (Or.inl rfl))
 have OF := Hi (hcs.obj OF.out (show ¬ d + 1 = dC by omega))
 have O8 := Hi (hcs.obj O8.out (show ¬ d = dC by omega))
 have HN := Hi (hcs.obj HN.out (show ¬ N = dC by omega))
 have HP := Hi (HP.out.chg hcs (show ¬ n.P = dC by omega) (show ¬ p.B = dC by omega) (show ¬ p.b.g = dC by omega))
 have CH := Hi (Chg.after CH.out hcs (fun k hk hk2 => by have := HDe.out; have : k = dC := hk2; omega))
 clear hcs hst hO hdC
 go_upto_region 9 with (fail)
 refine wp_region_noPanic ?_
 refine wp_region_held_drew (S := fun w' => Obj1 w' d (List.toArray [J U y00, J U y01, J U y02, J U y03, J U 0, J U 0, J U 0, J U 0]) 257 ∧ Chg (fun k => k = d ∨ k = d + 1) ws w') (by kernel_rfl) ⟨O8.out.drew, (Chg.refl _ _).drew⟩ (fun hHeld => ?_)
 refine zl 0 257 (d) (0) ([J U y00, J U y01, J U y02, J U y03, J U 0, J U 0, J U 0, J U 0]) rfl (fun w hS => hS.1.range0) Tryz.underlying257 hHeld ?_
 refine za 1 (Y (some ⟨N, 0, none⟩)) rfl hHeld ?_
 refine za 2 (J I a) rfl hHeld ?_
 have hS := (show (fun w' => Obj1 w' d (List.toArray [J U y00, J U y01, J U y02, J U y03, J U 0, J U 0, J U 0, J U 0]) 257 ∧ Chg (fun k => k = d ∨ k = d + 1) ws w') (World.drew ws) from ⟨O8.out.drew, (Chg.refl _ _).drew⟩)
 have hF := (Chg.refl (fun _ => False) ws).drew
 generalize World.drew _ = wk at hS hF ⊢
 refine wpAnyH_ready (rs := [3]) (by kernel_rfl) (by simp) ?_
 refine AllReadyH.cons (o := _) rfl (fun K' hK => ?_) AllReadyH.nil
 go_simp
 with_reducible refine (HWR.out _ (hF.obj HN.out (fun h => h))).mono ?_
 rintro e7 w7 ⟨rfl, hb7⟩
 go_wp2_with fail
 have hF := hF.trans (aB hb7 _)
 have OF := Hi (hF.obj OF.out (fun h => h))
 have O8 := Hi (hF.obj O8.out (fun h => h))
 have CH := Hi (CH.out.trans hF)
 have hS := (show (fun w' => Obj1 w' d (List.toArray [J U y00, J U y01, J U y02, J U y03, J U 0, J U 0, J U 0, J U 0]) 257 ∧ Chg (fun k => k = d ∨ k = d + 1) ws w') w7 from ⟨O8.out, hS.2.trans (aB hb7 _)⟩)
 refine hK _ _ hS (fun hH2 => ?_)
 clear hK K' hb7 hF
 try simp only [Act.put, zq1, zq2, zq3, zq4, zq5, zq6]
 refine wpAnyH_ready (rs := [4]) (by kernel_rfl) (by simp) ?_
 refine AllReadyH.cons (o := _) rfl (fun K' hK => ?_) AllReadyH.nil
 rw [if_pos (by rfl)]
 refine wp_store_mid 257 _ _ rfl (d) 0 (List.toArray [J U y00, J U y01, J U y02, J U y03, J U 0, J U 0, J U 0, J U 0]) rfl rfl (by have := O8.out.there 0 8 (by simp); simpa using this) (by kernel_rfl) (all_oneCell_toArray (List.all_eq_true.1 (by rfl))) ?_
 simp only [Act.put, zq1, zq2, zq3, zq4, zq5, zq6]
 have hst : Stored w7 d 0 [J U y00, J U y01, J U y02, J U y03, J U 0, J U 0, J U 0, J U 0] (w7.setCells d 0 [J U y00, J U y01, J U y02, J U y03, J U 0, J U 0, J U 0, J U 0]) := rfl
 have O8 := Hi (hst.whole O8.out rfl)
 have OF := Hi (hst.oth OF.out (by omega))
 have CH := Hi (Stored.chgS hst CH.out (Or.inr (by have := HDe.out; omega)))
 have hS := (show (fun w' => Obj1 w' d (List.toArray [J U y00, J U y01, J U y02, J U y03, J U 0, J U 0, J U 0, J U 0]) 257 ∧ Chg (fun k => k = d ∨ k = d + 1) ws w') (w7.setCells d 0 [J U y00, J U y01, J U y02, J U y03, J U 0, J U 0, J U 0, J U 0]) from ⟨O8.out, Stored.chgS hst hS.2 (Or.inl (Or.inl rfl))⟩)
 generalize World.setCells _ _ _ _ = w8 at O8 OF CH hS ⊢
 clear hst
 refine hK _ _ hS (fun hH3 => ?_)
 clear hK K'
 refine wpAnyH_ready (rs := [5]) (by kernel_rfl) (by simp) ?_
 refine AllReadyH.cons (o := _) rfl (fun K' hK => ?_) AllReadyH.nil
 rw [if_pos (by rfl)]
 refine wp_store_mid 31 _ _ rfl (d + 1) 0 (List.toArray [J I 2, J I f, J I a]) rfl rfl (by have := OF.out.there 0 3 (by simp); simpa using this) (by kernel_rfl) (all_oneCell_toArray (List.all_eq_true.1 (by rfl))) ?_
 simp only [Act.put, zq1, zq2, zq3, zq4, zq5, zq6]
 have hst : Stored w8 (d + 1) 0 [J I 2, J I f, J I a] (w8.setCells (d + 1) 0 [J I 2, J I f, J I a]) := rfl
 have OF := Hi (hst.whole OF.out rfl)
 have O8 := Hi (hst.oth O8.out (by omega))
 have CH := Hi (Stored.chgS hst CH.out (Or.inr (by have := HDe.out; omega)))
 have hS := (show (fun w' => Obj1 w' d (List.toArray [J U y00, J U y01, J U y02, J U y03, J U 0, J U 0, J U 0, J U 0]) 257 ∧ Chg (fun k => k = d ∨ k = d + 1) ws w') (w8.setCells (d + 1) 0 [J I 2, J I f, J I a]) from ⟨O8.out, Stored.chgS hst hS.2 (Or.inl (Or.inr rfl))⟩)
 generalize World.setCells _ _ _ _ = w9 at O8 OF CH hS ⊢
 clear hst
 refine hK _ _ hS (fun hH4 => ?_)
 clear hK K'
 refine wpAnyH_done (by kernel_rfl) ?_ _
 refine NoPanic.normal ?_
 go_wp2_with fail
 refine bodyPost_ret (v := .tuple #[.agg (List.toArray [J U y00, J U y01, J U y02, J U y03, J U 0, J U 0, J U 0, J U 0]), .agg (List.toArray [J I 2, J I f, J I a])]) ?_ rfl ⟨rfl, CH.out⟩
 exact aQ Tryz.results187 _ _ _ _ [J U y00, J U y01, J U y02, J U y03, J U 0, J U 0, J U 0, J U 0] [J I 2, J I f, J I a] _ _ rfl O8.out.range0 Tryz.underlying257 rfl (by kernel_rfl) rfl OF.out.range0 Tryz.underlying31 rfl (by kernel_rfl)
theorem ppair_any (N : Nat) (n : Pn) (p : Pal) (v a : Int) (w : World) (h : PnAt w N n) (hp : PalAt w n.P p) (hd : n.dp = 8 ∨ n.dp = 4) (hv : 0 ≤ v ∧ v < 256) : Calls Tryz.prog 187 #[Y (some ⟨N, 0, none⟩), J I v, J I a] w fun e w' =>
 e = .returned (aq p (aT v n.dp 0) (aT v n.dp 1) n.f a) ∧ Chg (fun _ => False) w w' := by
 rcases hd with hd | hd
 · have e0 : aT v n.dp 0 = v := by unfold aT; rw [if_pos hd]
   have e1 : aT v n.dp 1 = v := by unfold aT; rw [if_pos hd]
   rw [e0, e1]
   cases hh : p.has v with
   | true => exact ppair_8t N n p v a w h hp hd hh
   | false => exact ppair_8f N n p v a w h hp hd hh
 · have e0 : aT v n.dp 0 = v / 16 := by unfold aT; rw [if_neg (by rw [hd]; decide)]; rfl
   have e1 : aT v n.dp 1 = v % 16 := by unfold aT; rw [if_neg (by rw [hd]; decide)]; rfl
   rw [e0, e1]
   cases hh : p.has (v / 16) with
   | false => exact ppair_4f N n p v a w h hp hd hh hv
   | true =>
     cases hh1 : p.has (v % 16) with
     | true => exact ppair_4t N n p v a w h hp hd hh hh1 hv
     | false => exact ppair_4h N n p v a w h hp hd hh hh1 hv
end Go.Proofs.YtfchnibjjokmbaaGreat

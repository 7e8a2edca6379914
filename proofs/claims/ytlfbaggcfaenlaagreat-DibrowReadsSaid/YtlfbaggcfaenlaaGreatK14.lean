/- A raster's Set; walked. -/
import Derived.Test.YtlfbaggcfaenlaaGreatK13
import Derived.Test.YtlfbaggcfaenlaaGreatK3
import Derived.Test.YtlfbaggcfaenlaaGreatK11
import Derived.Test.YtlfbaggcfaenlaaGreatK1
import Derived.Test.YtlfbaggcfaenlaaGreatK0
namespace Go.Proofs.YtlfbaggcfaenlaaGreat
open Go.RowKit
set_option linter.unusedVariables false
set_option linter.unusedSimpArgs false
def put4 (d : List Int) (i : Nat) (c0 c1 c2 c3 : Int) : List Int := (((d.set i c0).set (i + 1) c1).set (i + 2) c2).set (i + 3) c3
theorem put4_len (d : List Int) (i : Nat) (c0 c1 c2 c3 : Int) : (put4 d i c0 c1 c2 c3).length = d.length := by unfold put4; simp
def Ras.set (r : Ras) (l : Led) (x y c0 c1 c2 c3 : Int) : (Ras × Led) × Bool :=
  if r.inB x y = false then ((r, l), false) else
  if (l.work 1).2 = false then ((r, (l.work 1).1), false) else
  (({ r with b := { r.b with d := put4 r.b.d (4 * (y.toNat * r.w + x.toNat)) c0 c1 c2 c3 } }, (l.work 1).1), true)
def rsS (r : Ras) (k : Nat) : Prop := k = r.L ∨ k = r.b.g
set_option maxRecDepth 100000 in
set_option maxHeartbeats 8000000 in
theorem rset_any (R : Nat) (r : Ras) (l : Led) (x y c0 c1 c2 c3 : Int) (w : World) (h : RasAt w R r) (hl : LedAt w r.L l) (h0 : 0 ≤ c0 ∧ c0 < 256) (h1 : 0 ≤ c1 ∧ c1 < 256) (h2 : 0 ≤ c2 ∧ c2 < 256) (h3 : 0 ≤ c3 ∧ c3 < 256) :
    Calls Tryz.prog 101 #[.pointer (some ⟨R, 0, none⟩), .int .i64 x, .int .i64 y, .agg #[.int .u8 c0, .int .u8 c1, .int .u8 c2, .int .u8 c3]] w fun e w' =>
      e = .returned (.bool (r.set l x y c0 c1 c2 c3).2) ∧ RasAt w' R (r.set l x y c0 c1 c2 c3).1.1 ∧ LedAt w' r.L (r.set l x y c0 c1 c2 c3).1.2 ∧ Chg (rsS r) w w' := by
  have HR := Hi h
  have HL := Hi hl
  have hRlt := h.lt
  have hLlt := hl.lt
  have hC1 := (Chg.refl (rsS r) w).alloc (.cells #[.int .u8 c0, .int .u8 c1, .int .u8 c2, .int .u8 c3] 185)
  have hC0 := (Chg.refl (fun _ => False) w).alloc (.cells #[.int .u8 c0, .int .u8 c1, .int .u8 c2, .int .u8 c3] 185)
  have hR1 := h.chg hC0 (fun h => h) (fun h => h) (fun h => h)
  have hL1 := hl.chg hC0 (fun h => h)
  have O7 := Hi (obj1_new w #[.int .u8 c0, .int .u8 c1, .int .u8 c2, .int .u8 c3] 185)
  have HAT := Hi (rat_any R r x y _ hR1)
  have HWK := Hi (work_any r.L l 1 _ hL1)
  have hnl : r.b.g ≠ r.L := by rw [← h.bl]; exact h.buf.gl
  have hBL : r.B ≠ r.L := by rw [← h.bl]; exact h.buf.nl
  unfold Ras.set
  cases hin : r.inB x y with
  | false =>
    rw [if_pos rfl]
    have HAT := Hi (HAT.out.mono (R' := fun e w' => e = .returned (.tuple #[.int .i64 0, .bool false]) ∧ w' = _) fun e w' hh => by rw [hin] at hh; exact hh)
    have H1 := Hi hR1
    have H2 := Hi hL1
    have H3 := Hi hC1
    clear h hl hR1 hL1 hC1 hC0 hin
    go_enter Tryz.func101, Tryz.ntmps101
    go_wp2_with (first
      | ((with_reducible refine skip_g rfl ?_ ?_); rfl; intro _)
      | ((go_at_call 172; (with_reducible refine (HAT.out).mono ?_); rintro e w1 ⟨rfl, rfl⟩)))
    go_ret
    exact ⟨rfl, H1.out, H2.out, H3.out⟩
  | true =>
  rw [if_neg (by decide)]
  have k0 := (hR1.obj.cell 0).trans (show _ = some (.pointer (some ⟨r.L, 0, none⟩)) from rfl)
  cases hk : (l.work 1).2 with
  | false =>
    rw [if_pos rfl]
    have HAT := Hi (HAT.out.mono (R' := fun e w' => e = .returned (.tuple #[.int .i64 (4 * (y * r.w + x)), .bool true]) ∧ w' = _) fun e w' hh => by rw [hin, if_pos rfl] at hh; exact hh)
    have HWK := Hi (HWK.out.mono (R' := fun e w' => e = .returned (.bool false) ∧ LedAt w' r.L (l.work 1).1 ∧ Chg (· = r.L) _ w') fun e w' hh => by rw [hk] at hh; exact hh)
    have H1 := Hi hR1
    have H3 := Hi hC1
    obtain ⟨Q, hQ⟩ : ∃ q : Int, 4 * (y * r.w + x) = q := ⟨_, rfl⟩
    rw [hQ] at HAT
    have HRL := Hi h.nl
    obtain ⟨LL, hLL⟩ : ∃ LL, r.L = LL := ⟨_, rfl⟩
    have HNL := Hi hnl
    have HBL := Hi hBL
    rw [hLL] at k0 HWK
    have HLL := Hi hLL
    clear h hl hR1 hL1 hC1 hC0 hin hk hQ hnl hBL hLL
    go_enter Tryz.func101, Tryz.ntmps101
    go_wp2_with (first
      | ((with_reducible refine skip_g rfl ?_ ?_); rfl; intro _)
      | ((go_at_call 172; (with_reducible refine (HAT.out).mono ?_); rintro e w1 ⟨rfl, rfl⟩))
      | ((go_at_call 173; (with_reducible refine (HWK.out).mono ?_); rintro e w2 ⟨rfl, hL, hC⟩); have HL2 := Hi hL; have HC2 := Hi hC; clear hL hC))
    go_ret
    have e1 := HLL.out
    exact ⟨rfl, H1.out.chg HC2.out (by rw [← e1]; exact HRL.out) (by rw [← e1]; exact HBL.out) (by rw [← e1]; exact HNL.out), by rw [e1]; exact HL2.out, H3.out.trans (HC2.out.mono (fun j _ hj => Or.inl (by rw [e1]; exact hj)))⟩
  | true =>
  rw [if_neg (by decide)]
  have hop : r.op = true ∧ (0 ≤ x ∧ x < r.w ∧ 0 ≤ y ∧ y < r.h) := by
    unfold Ras.inB at hin
    rw [Bool.and_eq_true, decide_eq_true_eq] at hin
    exact hin
  obtain ⟨ho, hx0, hx1, hy0, hy1⟩ := hop
  obtain ⟨x, rfl⟩ := Int.eq_ofNat_of_zero_le hx0
  obtain ⟨y, rfl⟩ := Int.eq_ofNat_of_zero_le hy0
  have hbo : r.b.op = true := h.opn.trans ho
  have hlen := h.len
  have hbsz := h.buf.sz
  obtain ⟨P, hP⟩ : ∃ P, 4 * (y * r.w + x) = P := ⟨_, rfl⟩
  have hPI : 4 * ((y : Int) * (r.w : Int) + (x : Int)) = (P : Int) := by rw [← hP, ← Int.natCast_mul]; omega
  have hPb : P + 4 ≤ r.b.d.length := by
    rw [hlen, ← hP]
    have h5 : (y + 1) * r.w ≤ r.h * r.w := Nat.mul_le_mul_right _ (by omega)
    rw [Nat.add_mul, Nat.one_mul] at h5
    rw [Nat.mul_comm r.w r.h]
    omega
  have HAT := Hi (HAT.out.mono (R' := fun e w' => e = .returned (.tuple #[.int .i64 P, .bool true]) ∧ w' = _) fun e w' hh => by rw [hin, if_pos rfl, hPI] at hh; exact hh)
  have HWK := Hi (HWK.out.mono (R' := fun e w' => e = .returned (.bool true) ∧ LedAt w' r.L (l.work 1).1 ∧ Chg (· = r.L) _ w') fun e w' hh => by rw [hk] at hh; exact hh)
  rw [show ((y : Int)).toNat = y from rfl, show ((x : Int)).toNat = x from rfl, hP]
  have step : ∀ (w0 : World) (b : Bf) (k : Nat) (c : Int), b.op = true → b.d.length = r.b.d.length → k < 4 → 0 ≤ c ∧ c < 256 → BufAt w0 r.B b →
      Calls Tryz.prog 174 #[.pointer (some ⟨r.B, 0, none⟩), .int .i64 ((P : Int) + (k : Int)), .int .u8 c] w0 fun e w' => e = .returned (.bool true) ∧ BufAt w' r.B { b with d := b.d.set (P + k) c } ∧ Chg (· = b.g) w0 w' := by
    intro w0 b k c hbo hbl hk4 hc hB
    have ht : b.there ((P : Int) + (k : Int)) 1 = true := by
      unfold Bf.there
      rw [hbo, hbl, decide_eq_true (show (0 : Int) ≤ (P : Int) + k by omega), decide_eq_true (show (0 : Int) ≤ 1 by decide), decide_eq_true (show (P : Int) + k ≤ (r.b.d.length : Int) by omega), decide_eq_true (show (1 : Int) ≤ (r.b.d.length : Int) - ((P : Int) + k) by omega)]
      rfl
    refine (bset_any r.B b _ c w0 hB (by omega) hc).mono ?_
    rintro e w' ⟨he, hb, hcg⟩
    unfold Bf.set at hb
    rw [ht, show ((P : Int) + (k : Int)).toNat = P + k by omega] at hb
    rw [ht] at he
    exact ⟨he, hb, hcg⟩
  have HS0 := Hi (fun w0 (hB : BufAt w0 r.B r.b) => (show Calls Tryz.prog 174 #[.pointer (some ⟨r.B, 0, none⟩), .int .i64 P, .int .u8 c0] w0 (fun e w' => e = .returned (.bool true) ∧ BufAt w' r.B { r.b with d := r.b.d.set P c0 } ∧ Chg (· = r.b.g) w0 w') from by
    have := step w0 r.b 0 c0 hbo rfl (by decide) h0 hB
    rw [show (P : Int) + ((0 : Nat) : Int) = P by simp] at this
    exact this))
  have HS1 := Hi (fun w0 (hB : BufAt w0 r.B { r.b with d := r.b.d.set P c0 }) => (show Calls Tryz.prog 174 #[.pointer (some ⟨r.B, 0, none⟩), .int .i64 ((P : Int) + 1), .int .u8 c1] w0 (fun e w' => e = .returned (.bool true) ∧ BufAt w' r.B { r.b with d := (r.b.d.set P c0).set (P + 1) c1 } ∧ Chg (· = r.b.g) w0 w') from
    step w0 { r.b with d := r.b.d.set P c0 } 1 c1 hbo (by simp) (by decide) h1 hB))
  have HS2 := Hi (fun w0 (hB : BufAt w0 r.B { r.b with d := (r.b.d.set P c0).set (P + 1) c1 }) => (show Calls Tryz.prog 174 #[.pointer (some ⟨r.B, 0, none⟩), .int .i64 ((P : Int) + 2), .int .u8 c2] w0 (fun e w' => e = .returned (.bool true) ∧ BufAt w' r.B { r.b with d := ((r.b.d.set P c0).set (P + 1) c1).set (P + 2) c2 } ∧ Chg (· = r.b.g) w0 w') from
    step w0 { r.b with d := (r.b.d.set P c0).set (P + 1) c1 } 2 c2 hbo (by simp) (by decide) h2 hB))
  have HS3 := Hi (fun w0 (hB : BufAt w0 r.B { r.b with d := ((r.b.d.set P c0).set (P + 1) c1).set (P + 2) c2 }) => (show Calls Tryz.prog 174 #[.pointer (some ⟨r.B, 0, none⟩), .int .i64 ((P : Int) + 3), .int .u8 c3] w0 (fun e w' => e = .returned (.bool true) ∧ BufAt w' r.B { r.b with d := put4 r.b.d P c0 c1 c2 c3 } ∧ Chg (· = r.b.g) w0 w') from
    step w0 { r.b with d := ((r.b.d.set P c0).set (P + 1) c1).set (P + 2) c2 } 3 c3 hbo (by simp) (by decide) h3 hB))
  have FIN := Hi (fun w' (hO : Obj1 w' R r.cells.toArray 155) (hB : BufAt w' r.B { r.b with d := put4 r.b.d P c0 c1 c2 c3 }) => (show RasAt w' R { r with b := { r.b with d := put4 r.b.d P c0 c1 c2 c3 } } from ⟨hO, hB, h.bl, by show (put4 _ _ _ _ _ _).length = _; rw [put4_len]; exact h.len, h.opn, h.nb, h.ng, h.nl, h.sw, h.sh⟩))
  have e1 : r.cells.toArray = #[.pointer (some ⟨r.L, 0, none⟩), .int .i64 r.w, .int .i64 r.h, .pointer (some ⟨r.B, 0, none⟩), .bool true] := by unfold Ras.cells; rw [ho]
  have OR := Hi (show Obj1 (w.alloc (.cells #[.int .u8 c0, .int .u8 c1, .int .u8 c2, .int .u8 c3] 185)) R #[.pointer (some ⟨r.L, 0, none⟩), .int .i64 r.w, .int .i64 r.h, .pointer (some ⟨r.B, 0, none⟩), .bool true] 155 by rw [← e1]; exact hR1.obj)
  rw [e1] at FIN
  have BF := Hi hR1.buf
  have hgl := h.buf.glt hbo
  have hRg := h.ng
  have hRL := h.nl
  have CH := Hi hC1
  have HNG := Hi hnl
  unfold rsS at CH ⊢
  obtain ⟨B, hB⟩ : ∃ B, r.B = B := ⟨_, rfl⟩
  obtain ⟨g, hg⟩ : ∃ g, r.b.g = g := ⟨_, rfl⟩
  obtain ⟨LL, hLL⟩ : ∃ L, r.L = L := ⟨_, rfl⟩
  have HBe := Hi hB
  have HGe := Hi hg
  have HLe := Hi hLL
  rw [hB] at HS0 HS1 HS2 HS3 FIN OR BF hBL
  rw [hg] at HS0 HS1 HS2 HS3 CH hnl hgl hRg ⊢
  rw [hLL] at OR HWK k0 CH hLlt hnl hBL hRL FIN HNG ⊢
  have hP31 : P ≤ 2147483648 := by omega
  have hBLh := Hi hBL
  have hgB := Hi (show g ≠ B by rw [← hg, ← hB]; exact fun e => h.buf.ne e.symm)
  clear step h hl hR1 hL1 hC1 hC0 hin hk ho hx0 hx1 hy0 hy1 hbo hlen hP hPI hPb hB hg hLL e1 hbsz hBL
  have hix0 : ∀ w0 : World, (Instr.index 250 (.agg #[.int .u8 c0, .int .u8 c1, .int .u8 c2, .int .u8 c3]) (.int .i64 0)).run Tryz.prog w0 = .ok (.int .u8 c0) w0 := fun _ => by kernel_rfl
  have hix1 : ∀ w0 : World, (Instr.index 250 (.agg #[.int .u8 c0, .int .u8 c1, .int .u8 c2, .int .u8 c3]) (.int .i64 1)).run Tryz.prog w0 = .ok (.int .u8 c1) w0 := fun _ => by kernel_rfl
  have hix2 : ∀ w0 : World, (Instr.index 250 (.agg #[.int .u8 c0, .int .u8 c1, .int .u8 c2, .int .u8 c3]) (.int .i64 2)).run Tryz.prog w0 = .ok (.int .u8 c2) w0 := fun _ => by kernel_rfl
  have hix3 : ∀ w0 : World, (Instr.index 250 (.agg #[.int .u8 c0, .int .u8 c1, .int .u8 c2, .int .u8 c3]) (.int .i64 3)).run Tryz.prog w0 = .ok (.int .u8 c3) w0 := fun _ => by kernel_rfl
  go_enter Tryz.func101, Tryz.ntmps101
  go_wp2_with (first
    | ((with_reducible refine skip_g rfl ?_ ?_); rfl; intro _)
    | ((go_at_call 172; (with_reducible refine (HAT.out).mono ?_); rintro e w1 ⟨rfl, rfl⟩))
    | ((go_at_call 173; (with_reducible refine (HWK.out).mono ?_); rintro e w2 ⟨rfl, hL, hC⟩); have HLD := Hi hL; have CH := Hi (CH.out.trans (hC.mono (fun j _ hj => Or.inl hj))); have O7 := Hi (hC.obj O7.out (show ¬ w.heap.size = LL by omega)); have OR := Hi (hC.obj OR.out hRL); have BF := Hi (BF.out.chg hC hBLh.out HNG.out); have d0 := (O7.out.cell 0).trans (show _ = some (.int .u8 c0) from rfl); have d1 := (O7.out.cell 1).trans (show _ = some (.int .u8 c1) from rfl); have d2 := (O7.out.cell 2).trans (show _ = some (.int .u8 c2) from rfl); have d3 := (O7.out.cell 3).trans (show _ = some (.int .u8 c3) from rfl); have k3 := (OR.out.cell 3).trans (show _ = some (.pointer (some ⟨B, 0, none⟩)) from rfl); clear hL hC))
  clear d0 d1 d2 d3 k0
  refine wp_loop_rounds 5 ?_
  rw [rounds_succ]
  go_wp2_with ((go_at_call 174; (with_reducible refine (HS0.out _ BF.out).mono ?_); rintro e w0 ⟨rfl, hB, hC⟩); have BF := Hi hB; have CH := Hi (CH.out.trans (hC.mono (fun j _ hj => Or.inr hj))); have O7 := Hi (hC.obj O7.out (show ¬ w.heap.size = g by omega)); have OR := Hi (hC.obj OR.out hRg); have HLD := Hi (HLD.out.chg hC (show ¬ LL = g from fun e => hnl e.symm)); have k3 := (OR.out.cell 3).trans (show _ = some (.pointer (some ⟨B, 0, none⟩)) from rfl); clear hB hC)
  rw [rounds_succ]
  go_wp2_with ((go_at_call 174; (with_reducible refine (HS1.out _ BF.out).mono ?_); rintro e w1 ⟨rfl, hB, hC⟩); have BF := Hi hB; have CH := Hi (CH.out.trans (hC.mono (fun j _ hj => Or.inr hj))); have O7 := Hi (hC.obj O7.out (show ¬ w.heap.size = g by omega)); have OR := Hi (hC.obj OR.out hRg); have HLD := Hi (HLD.out.chg hC (show ¬ LL = g from fun e => hnl e.symm)); have k3 := (OR.out.cell 3).trans (show _ = some (.pointer (some ⟨B, 0, none⟩)) from rfl); clear hB hC)
  rw [rounds_succ]
  go_wp2_with ((go_at_call 174; (with_reducible refine (HS2.out _ BF.out).mono ?_); rintro e w2 ⟨rfl, hB, hC⟩); have BF := Hi hB; have CH := Hi (CH.out.trans (hC.mono (fun j _ hj => Or.inr hj))); have O7 := Hi (hC.obj O7.out (show ¬ w.heap.size = g by omega)); have OR := Hi (hC.obj OR.out hRg); have HLD := Hi (HLD.out.chg hC (show ¬ LL = g from fun e => hnl e.symm)); have k3 := (OR.out.cell 3).trans (show _ = some (.pointer (some ⟨B, 0, none⟩)) from rfl); clear hB hC)
  rw [rounds_succ]
  go_wp2_with ((go_at_call 174; (with_reducible refine (HS3.out _ BF.out).mono ?_); rintro e w3 ⟨rfl, hB, hC⟩); have BF := Hi hB; have CH := Hi (CH.out.trans (hC.mono (fun j _ hj => Or.inr hj))); have O7 := Hi (hC.obj O7.out (show ¬ w.heap.size = g by omega)); have OR := Hi (hC.obj OR.out hRg); have HLD := Hi (HLD.out.chg hC (show ¬ LL = g from fun e => hnl e.symm)); have k3 := (OR.out.cell 3).trans (show _ = some (.pointer (some ⟨B, 0, none⟩)) from rfl); clear hB hC)
  rw [rounds_succ]
  go_wp2_with fail
  go_ret
  have e1 : r.B = B := HBe.out
  have e2 : r.b.g = g := HGe.out
  have e3 : r.L = LL := HLe.out
  subst e1 e2 e3
  exact ⟨rfl, FIN.out _ OR.out BF.out, HLD.out, CH.out⟩
def Ras.shut (r : Ras) : Ras := { r with op := false, b := r.b.shut }
set_option maxRecDepth 100000 in
set_option maxHeartbeats 8000000 in
theorem rimage_yes (R : Nat) (r : Ras) (w : World) (h : RasAt w R r) (ho : r.op = true) : Calls Tryz.prog 26 #[.pointer (some ⟨R, 0, none⟩)] w fun e w' =>
      e = .returned (.tuple #[.agg #[.int .i64 r.w, .int .i64 r.h, .slice (some ⟨r.b.g, 0, none⟩) r.b.d.length r.b.d.length], .bool true]) ∧ RasAt w' R r.shut ∧ Obj1 w' r.b.g (u8s r.b.d).toArray 5 ∧ Chg (fun k => k = R ∨ k = r.B) w w' := by
  have hbo : r.b.op = true := h.opn.trans ho
  have H := Hi h
  obtain ⟨d, hd⟩ : ∃ d, w.heap.size = d := ⟨_, rfl⟩
  have hRd := h.lt
  have hBd := h.buf.lt
  have hgd := h.buf.glt hbo
  have hRB := h.nb
  have hRg := h.ng
  have hBg := h.buf.ne
  have e1 : r.cells.toArray = #[.pointer (some ⟨r.L, 0, none⟩), .int .i64 r.w, .int .i64 r.h, .pointer (some ⟨r.B, 0, none⟩), .bool true] := by unfold Ras.cells; rw [ho]
  have OR := Hi ((show Obj1 w R #[.pointer (some ⟨r.L, 0, none⟩), .int .i64 r.w, .int .i64 r.h, .pointer (some ⟨r.B, 0, none⟩), .bool true] 155 by rw [← e1]; exact h.obj).alloc (.cells #[.int .i64 0, .int .i64 0, .slice none 0 0] 63))
  have O2 := Hi (obj1_new w #[.int .i64 0, .int .i64 0, .slice none 0 0] 63)
  have CH := Hi ((Chg.refl (fun k => k = R ∨ k = r.B) w).alloc (.cells #[.int .i64 0, .int .i64 0, .slice none 0 0] 63))
  have BF := Hi (h.buf.chg ((Chg.refl (fun _ => False) w).alloc (.cells #[.int .i64 0, .int .i64 0, .slice none 0 0] 63)) (fun h => h) (fun h => h))
  have OG := Hi ((h.buf.dat hbo).alloc (.cells #[.int .i64 0, .int .i64 0, .slice none 0 0] 63))
  have HOUT := Hi (fun w0 (hB : BufAt w0 r.B r.b) => (bout_any r.B r.b w0 hB).mono (R' := fun e w' => e = .returned (.tuple #[.slice (some ⟨r.b.g, 0, none⟩) r.b.d.length r.b.d.length, .bool true]) ∧ BufAt w' r.B r.b.shut ∧ Chg (· = r.B) w0 w') fun e w' hh => by
    unfold Bf.out at hh; rw [hbo] at hh; exact hh)
  have FIN := Hi (fun w' (hO : Obj1 w' R #[.pointer (some ⟨r.L, 0, none⟩), .int .i64 r.w, .int .i64 r.h, .pointer (some ⟨r.B, 0, none⟩), .bool false] 155) (hB : BufAt w' r.B r.b.shut) => (show RasAt w' R r.shut from ⟨hO, hB, H.out.bl, H.out.len, rfl, H.out.nb, H.out.ng, H.out.nl, H.out.sw, H.out.sh⟩))
  have hsw := h.sw
  have hsh := h.sh
  rw [hd] at O2 hRd hBd hgd
  obtain ⟨B, hB⟩ : ∃ B, r.B = B := ⟨_, rfl⟩
  obtain ⟨g, hg⟩ : ∃ g, r.b.g = g := ⟨_, rfl⟩
  obtain ⟨m, hm⟩ : ∃ m, r.b.d.length = m := ⟨_, rfl⟩
  obtain ⟨W, hW⟩ : ∃ W, r.w = W := ⟨_, rfl⟩
  obtain ⟨HH, hH⟩ : ∃ HH, r.h = HH := ⟨_, rfl⟩
  have HBe := Hi hB
  have HGe := Hi hg
  have HDe := Hi hd
  rw [hB] at OR CH BF HOUT FIN hBd hRB hBg ⊢
  rw [hg] at OG HOUT hgd hRg hBg ⊢
  rw [hm] at HOUT ⊢
  rw [hW] at OR FIN hsw ⊢
  rw [hH] at OR FIN hsh ⊢
  clear h ho hbo e1 hB hg hm hW hH
  go_enter Tryz.func26, Tryz.ntmps26
  go_upto_region 1 with (fail)
  clear hd
  generalize World.alloc _ _ = wr at OR O2 CH BF OG ⊢
  have c4 := (OR.out.cell 4).trans (show _ = some (.bool true) from rfl)
  have f4 := OR.out.frozen 4
  go_upto_region 4 with (fail)
  have OR := Hi ((OR.out.set 4 (.bool false)).cells (show _ = #[.pointer (some ⟨r.L, 0, none⟩), .int .i64 W, .int .i64 HH, .pointer (some ⟨B, 0, none⟩), .bool false] from rfl))
  have O2 := Hi (O2.out.set_other ⟨R, 4, none⟩ (.bool false) (by simp; omega))
  have OG := Hi (OG.out.set_other ⟨R, 4, none⟩ (.bool false) (by simp; omega))
  have BF := Hi (BF.out.chg ((Chg.refl (fun k => k = R) wr).set ⟨R, 4, none⟩ (.bool false) (Or.inl rfl)) (show ¬ B = R from fun e => hRB e.symm) (show ¬ r.b.g = R by have := HGe.out; omega))
  have CH := Hi (CH.out.set ⟨R, 4, none⟩ (.bool false) (Or.inl (Or.inl rfl)))
  generalize World.setCell _ _ _ = wv at OR O2 CH BF OG ⊢
  clear c4 f4
  obtain ⟨wr, rfl⟩ : ∃ z, z = wv := ⟨_, rfl⟩
  have c3 := (OR.out.cell 3).trans (show _ = some (.pointer (some ⟨B, 0, none⟩)) from rfl)
  go_upto_region 5 with ((go_at_call 96; (with_reducible refine (HOUT.out _ BF.out).mono ?_); rintro e w3 ⟨rfl, hB, hC⟩); have BF := Hi hB; have OR := Hi (hC.obj OR.out hRB); have O2 := Hi (hC.obj O2.out (show ¬ d = B by omega)); have OG := Hi (hC.obj OG.out (show ¬ g = B from fun e => hBg e.symm)); have CH := Hi (CH.out.trans (hC.mono (fun k _ hk => Or.inr hk))); clear hB hC)
  clear c3
  obtain ⟨wr, rfl⟩ : ∃ z, z = w3 := ⟨_, rfl⟩
  refine wp_region_noPanic ?_
  refine wp_region_T (fun w' => w' = World.drew wr) (fun i => decide (10 ≤ i)) (by kernel_rfl) ?_
  have OR := Hi (OR.out.drew)
  have O2 := Hi (O2.out.drew)
  have BF := Hi (BF.out.chg (Chg.refl (fun _ => False) _).drew (fun h => h) (fun h => h))
  have OG := Hi (OG.out.drew)
  have CH := Hi (CH.out.drew)
  generalize World.drew _ = wk at OR O2 BF OG CH ⊢
  refine wpAnyT_take (i := 0) (v := .pointer (some ⟨R, 0, none⟩)) rfl (by kernel_rfl) (by kernel_rfl) (by kernel_rfl) (by kernel_rfl) rfl (fun _ _ _ h => h) (Or.inl ⟨by rfl, fun w hS => by subst hS; (go_simp) <;> first | rfl | assumption | (intro hh; exfalso; omega) | (exact (i64_wraps _ (by omega) (by omega)).trans (by omega)) | omega⟩) rfl ?_
  simp only [Act.put, zq1, zq2, zq3, zq4, zq5, zq6]
  refine wpAnyT_take (i := 1) (v := .pointer (some ⟨R, 0, none⟩)) rfl (by kernel_rfl) (by kernel_rfl) (by kernel_rfl) (by kernel_rfl) rfl (fun _ _ _ h => h) (Or.inl ⟨by rfl, fun w hS => by subst hS; go_simp⟩) rfl ?_
  simp only [Act.put, zq1, zq2, zq3, zq4, zq5, zq6]
  refine wpAnyT_take (i := 2) (v := .pointer (some ⟨R, 1, none⟩)) rfl (by kernel_rfl) (by kernel_rfl) (by kernel_rfl) (by kernel_rfl) rfl (fun _ _ _ h => h) (Or.inl ⟨by rfl, fun w hS => by subst hS; (go_simp) <;> first | rfl | assumption | (intro hh; exfalso; omega) | (exact (i64_wraps _ (by omega) (by omega)).trans (by omega)) | omega⟩) rfl ?_
  simp only [Act.put, zq1, zq2, zq3, zq4, zq5, zq6]
  refine wpAnyT_take (i := 3) (v := .int .i64 (W : Int)) rfl (by kernel_rfl) (by kernel_rfl) (by kernel_rfl) (by kernel_rfl) rfl (fun _ _ _ h => h) (Or.inl ⟨by rfl, fun w hS => by subst hS; (have hc : w.cell? ⟨R, 1, none⟩ = some (.int .i64 (W : Int)) := ((OR.out.cell 1).trans rfl); go_simp)⟩) rfl ?_
  simp only [Act.put, zq1, zq2, zq3, zq4, zq5, zq6]
  refine wpAnyT_take (i := 4) (v := .pointer (some ⟨R, 0, none⟩)) rfl (by kernel_rfl) (by kernel_rfl) (by kernel_rfl) (by kernel_rfl) rfl (fun _ _ _ h => h) (Or.inl ⟨by rfl, fun w hS => by subst hS; (go_simp) <;> first | rfl | assumption | (intro hh; exfalso; omega) | (exact (i64_wraps _ (by omega) (by omega)).trans (by omega)) | omega⟩) rfl ?_
  simp only [Act.put, zq1, zq2, zq3, zq4, zq5, zq6]
  refine wpAnyT_take (i := 5) (v := .pointer (some ⟨R, 0, none⟩)) rfl (by kernel_rfl) (by kernel_rfl) (by kernel_rfl) (by kernel_rfl) rfl (fun _ _ _ h => h) (Or.inl ⟨by rfl, fun w hS => by subst hS; go_simp⟩) rfl ?_
  simp only [Act.put, zq1, zq2, zq3, zq4, zq5, zq6]
  refine wpAnyT_take (i := 6) (v := .pointer (some ⟨R, 2, none⟩)) rfl (by kernel_rfl) (by kernel_rfl) (by kernel_rfl) (by kernel_rfl) rfl (fun _ _ _ h => h) (Or.inl ⟨by rfl, fun w hS => by subst hS; (go_simp) <;> first | rfl | assumption | (intro hh; exfalso; omega) | (exact (i64_wraps _ (by omega) (by omega)).trans (by omega)) | omega⟩) rfl ?_
  simp only [Act.put, zq1, zq2, zq3, zq4, zq5, zq6]
  refine wpAnyT_take (i := 7) (v := .int .i64 (HH : Int)) rfl (by kernel_rfl) (by kernel_rfl) (by kernel_rfl) (by kernel_rfl) rfl (fun _ _ _ h => h) (Or.inl ⟨by rfl, fun w hS => by subst hS; (have hc : w.cell? ⟨R, 2, none⟩ = some (.int .i64 (HH : Int)) := ((OR.out.cell 2).trans rfl); go_simp)⟩) rfl ?_
  simp only [Act.put, zq1, zq2, zq3, zq4, zq5, zq6]
  refine wpAnyT_take (i := 8) (v := .slice (some ⟨g, 0, none⟩) m m) rfl (by kernel_rfl) (by kernel_rfl) (by kernel_rfl) (by kernel_rfl) rfl (fun _ _ _ h => h) (Or.inl ⟨by rfl, fun w hS => by subst hS; (go_simp) <;> first | rfl | assumption | (intro hh; exfalso; omega) | (exact (i64_wraps _ (by omega) (by omega)).trans (by omega)) | omega⟩) rfl ?_
  simp only [Act.put, zq1, zq2, zq3, zq4, zq5, zq6]
  refine wpAnyT_take (i := 9) (v := .agg #[.int .i64 W, .int .i64 HH, .slice (some ⟨g, 0, none⟩) m m]) rfl (by kernel_rfl) (by kernel_rfl) (by kernel_rfl) (by kernel_rfl) rfl (fun _ _ _ h => h) (Or.inl ⟨by rfl, fun w hS => by subst hS; go_simp⟩) rfl ?_
  simp only [Act.put, zq1, zq2, zq3, zq4, zq5, zq6]
  refine wpAnyT_one (i := 10) (by kernel_rfl) rfl rfl ?_
  intro K' hK
  rw [if_pos (by rfl)]
  refine wp_store_mid 63 _ _ rfl d 0 (List.toArray [.int .i64 W, .int .i64 HH, .slice (some ⟨g, 0, none⟩) m m]) rfl rfl (O2.out.there 0 3 (by simp)) (by kernel_rfl) (all_oneCell_toArray (List.all_eq_true.1 (by rfl))) ?_
  simp only [Act.put, zq1, zq2, zq3, zq4, zq5, zq6]
  have hst : Stored wk d 0 [.int .i64 W, .int .i64 HH, .slice (some ⟨g, 0, none⟩) m m] (wk.setCells d 0 [.int .i64 W, .int .i64 HH, .slice (some ⟨g, 0, none⟩) m m]) := rfl
  have O2 := Hi (hst.whole O2.out (by first | rfl | simp))
  have OR := Hi (hst.oth OR.out (by omega))
  have OG := Hi (hst.oth OG.out (by omega))
  have hcg := Stored.chgS (S := fun k => k = d) hst (Chg.refl _ wk) (Or.inl rfl)
  have BF := Hi (BF.out.chg hcg (by show ¬ B = d; omega) (by show ¬ r.b.g = d; have := HGe.out; omega))
  have CH := Hi (Stored.chgS hst CH.out (Or.inr (by have := HDe.out; omega)))
  generalize World.setCells _ _ _ _ = wk2 at O2 OR OG BF CH ⊢
  clear hst hcg
  refine hK _ _ ?_
  clear hK K'
  try simp only [Act.put, zq1, zq2, zq3, zq4, zq5, zq6]
  refine wpAnyT_one (i := 11) (by kernel_rfl) rfl rfl ?_
  intro K' hK
  go_simp
  refine hK _ _ ?_
  clear hK K'
  try simp only [Act.put, zq1, zq2, zq3, zq4, zq5, zq6]
  refine wpAnyT_done (by kernel_rfl) ?_ _
  refine NoPanic.normal ?_
  go_wp2_with fail
  refine bodyPost_ret (v := .tuple #[.agg (List.toArray [.int .i64 W, .int .i64 HH, .slice (some ⟨g, 0, none⟩) m m]), .bool true]) ?_ rfl ?_
  · exact results_c1 Tryz.results26 _ _ _ [.int .i64 W, .int .i64 HH, .slice (some ⟨g, 0, none⟩) m m] _ rfl O2.out.range0 Tryz.underlying63 rfl (by kernel_rfl)
  · have e1 : r.B = B := HBe.out
    have e2 : r.b.g = g := HGe.out
    subst e1 e2
    exact ⟨rfl, FIN.out _ OR.out BF.out, OG.out, CH.out⟩
end Go.Proofs.YtlfbaggcfaenlaaGreat
namespace Go.Proofs.YtlfbaggcfaenlaaGreat
open Go.RowKit
set_option linter.unusedVariables false
theorem fold_data3 (l : List Int) : ∀ r : ByteArray, (l.foldl (fun r n => r.push (UInt8.ofNat n.toNat)) r).data.toList = r.data.toList ++ l.map (fun n => UInt8.ofNat n.toNat) := by
  induction l with
  | nil => intro r; simp
  | cons a l ih => intro r; rw [List.foldl_cons, ih]; simp [ByteArray.data_push]
theorem byN_strOf3 (l : List Int) (i : Nat) (x : Int) (h : l[i]? = some x) (h0 : 0 ≤ x) (h1 : x < 256) : byN (strOf l) i = x := by
  unfold byN strOf
  rw [fold_data3]
  rw [show (ByteArray.empty.data.toList ++ l.map (fun n => UInt8.ofNat n.toNat)) = l.map (fun n => UInt8.ofNat n.toNat) from rfl, List.getD_eq_getElem?_getD, List.getElem?_map, h]
  show ((UInt8.ofNat x.toNat).toNat : Int) = x
  rw [UInt8.toNat_ofNat']
  omega
theorem strOf_size3 (l : List Int) : (strOf l).size = l.length := by
  have h := congrArg List.length (fold_data3 l ByteArray.empty)
  rw [List.length_append, List.length_map] at h
  have h0 : ByteArray.empty.data.toList.length = 0 := rfl
  rw [h0, Nat.zero_add] at h
  rw [Array.length_toList] at h
  exact h
end Go.Proofs.YtlfbaggcfaenlaaGreat

/- token.digits, walked. -/
import Derived.Test.YtcjjfnghgajefaaGreatK2
import Derived.Test.YtcjjfnghgajefaaGreatK0
namespace Go.Proofs.YtcjjfnghgajefaaGreat
open Go.RowKit
set_option linter.unusedVariables false
set_option linter.unusedSimpArgs false
theorem rs_1c {P : Program} {fn : Func} {p q : Tmp} {ty : TypeId} (h : fn.results = #[.tmp p, .cell q ty]) (tmps : Array Value) (w : World) (b : Nat) (cs : List Value) (d : TypeDesc)
    (hp : tmps.getD q undef = .pointer (some ⟨b, 0, none⟩)) (R : w.rangeAt b 0 cs) (hu : P.underlying ty = some d) (hd : d.isRow = true) (hi : (P.info? ty).map (·.size) = some cs.length) :
    (results fn tmps).run P w = .ok (.tuple #[tmps.getD p undef, .agg cs.toArray]) w := by
  have hp' : tmps[q]?.getD undef = .pointer (some ⟨b, 0, none⟩) := by simpa using hp
  simp [results, h, hp', asAddr, run_loadVar_mid w b 0 ty cs d R hu hd hi]
theorem rs_2c {P : Program} {fn : Func} {p r q : Tmp} {ty : TypeId} (h : fn.results = #[.tmp p, .tmp r, .cell q ty]) (tmps : Array Value) (w : World) (b : Nat) (cs : List Value) (d : TypeDesc)
    (hp : tmps.getD q undef = .pointer (some ⟨b, 0, none⟩)) (R : w.rangeAt b 0 cs) (hu : P.underlying ty = some d) (hd : d.isRow = true) (hi : (P.info? ty).map (·.size) = some cs.length) :
    (results fn tmps).run P w = .ok (.tuple #[tmps.getD p undef, tmps.getD r undef, .agg cs.toArray]) w := by
  have hp' : tmps[q]?.getD undef = .pointer (some ⟨b, 0, none⟩) := by simpa using hp
  simp [results, h, hp', asAddr, run_loadVar_mid w b 0 ty cs d R hu hd hi]
theorem rd_left {d : Nat} {w : World} {X : Nat} {x y : Sr} {m : Led} (h : Rdr d w X x y m) : Calls Tryz.prog 108 #[.pointer (some ⟨X, 0, none⟩)] w fun e w' => e = .returned (.int .i64 ((y.e : Int) - y.p)) ∧ ∃ k, w.drewN k = w' := left_any X y w h.pr.src
set_option maxRecDepth 100000 in
set_option maxHeartbeats 4000000 in
theorem digits_any {d0 : Nat} {w : World} {X : Nat} {x y : Sr} {m : Led} (h : Rdr d0 w X x y m) (v : Int) (hv0 : 0 ≤ v) (hv1 : v ≤ 1000000000) :
    Calls Tryz.prog 120 #[.pointer (some ⟨X, 0, none⟩), .int .i64 v] w (RdPost d0 w X x (y.digits m v).1 (.tuple #[.int .i64 (y.digits m v).2.1, .agg (pf (y.digits m v).2.2).toArray])) := by
  suffices H : Calls Tryz.prog 120 #[.pointer (some ⟨X, 0, none⟩), .int .i64 v] w (RdPost w.heap.size w X x (y.digits m v).1 (.tuple #[.int .i64 (y.digits m v).2.1, .agg (pf (y.digits m v).2.2).toArray])) from H.mono fun e w' hh => ⟨hh.1, hh.2.1.to h, hh.2.2⟩
  have PX := Hi (h.self.alloc (.cells #[.int .i64 0, .int .i64 0, .int .i64 0] 36))
  have OF := Hi (obj1_new w #[.int .i64 0, .int .i64 0, .int .i64 0] 36)
  have CH := Hi ((Chg.refl (two X x) w).alloc (.cells #[.int .i64 0, .int .i64 0, .int .i64 0] 36))
  have HS := Hi (show y.e < y.p + y.fu by unfold Sr.fu; have := h.pr.src.ok.pe; omega)
  have HV := Hi (show 0 ≤ v ∧ v ≤ 1000000000 from ⟨hv0, hv1⟩)
  obtain ⟨R, hR⟩ : ∃ R, y.digits m v = R := ⟨_, rfl⟩
  rw [hR]
  unfold Sr.digits at hR
  have HRE := Hi hR
  obtain ⟨d, hd⟩ : ∃ d, w.heap.size = d := ⟨_, rfl⟩
  have HDe := Hi hd
  rw [hd] at PX OF ⊢
  clear h hR hv0 hv1
  go_enter Tryz.func120, Tryz.ntmps120
  go_upto_region 1 with (fail)
  clear hd
  generalize World.alloc _ _ = wr at PX OF CH ⊢
  go_loopw [1] (fun cc wr => ∃ (f : Nat) (z : Sr) (n : Led) (u : Int), cc = .int .i64 u ∧ digitsM f z n u = R ∧ (0 ≤ u ∧ u ≤ 1000000000) ∧ z.e < z.p + f ∧ Rdr d wr X x z n ∧ Obj1 wr d #[.int .i64 0, .int .i64 0, .int .i64 0] 36 ∧ Chg (two X x) w wr) (fun _ wr => x.e + 1 - (intOf ((wr.cell? ⟨X, 4, none⟩).getD undef)).toNat)
  case atStart => exact ⟨_, _, _, _, rfl, HRE.out, HV.out, HS.out, PX.out, OF.out, CH.out⟩
  case round =>
    obtain ⟨f, z, n, u, rfl, hov, hu, hfu, hrd, hof, hch⟩ := hrel
    obtain ⟨f, rfl⟩ : ∃ g, f = g + 1 := ⟨f - 1, by have := hrd.pr.src.ok.pe; omega⟩
    have hm0 : intOf ((wr.cell? ⟨X, 4, none⟩).getD undef) = (z.p : Int) := by
      have := hrd.pr.src.c4
      rw [this]; rfl
    rw [hm0, Int.toNat_natCast]
    have HZ := Hi hrd.pr.src.ok
    have HEE := Hi hrd.ee
    have HFU := Hi hfu
    have HOV := Hi hov
    have HU0 := Hi hu
    have PX := Hi hrd
    have OF := Hi hof
    have CH := Hi hch
    clear hm0 hov hfu hrd hof hch HS HRE hu HV
    have HLF := Hi (fun w0 (h0 : Rdr d w0 X x z n) => rd_left h0)
    obtain ⟨q, hq⟩ : ∃ q, (z.e : Int) - z.p = q := ⟨_, rfl⟩
    rw [hq] at HLF
    by_cases hle : z.e ≤ z.p
    · have E := Hi (show R = ((z, n), (u, (0, 0))) by have := HOV.out; rw [digitsM, if_pos hle] at this; exact this.symm)
      have g1 : decide (q > 0) = false := by rw [decide_eq_false_iff_not]; omega
      clear hle hq
      go_wp2_with (first
        | ((go_at_call 108; (with_reducible refine (HLF.out _ PX.out).mono ?_); rintro e wl ⟨rfl, kk, rfl⟩); have PX := Hi (PX.out.drewN kk); have CH := Hi (CH.out.drewN kk); have OF := Hi (OF.out.drewN kk); generalize World.drewN _ kk = wl at PX CH OF ⊢)
        | (refine store_o rfl 36 3 _ _ rfl (d) (pf (0, 0)) rfl rfl (by kernel_rfl) (by kernel_rfl) (by kernel_rfl) OF.out (by first | rfl | simp) ?_; intro ws hst hO; have OF := Hi hO; have PX := Hi (PX.out.into hst (by omega)); have CH := Hi (Stored.chg hst CH.out (by have := HDe.out; omega)); clear hst hO))
      refine bodyPost_ret (v := .tuple #[.int .i64 u, .agg (pf (0, 0)).toArray]) ?_ rfl ⟨by rw [E.out], by rw [E.out]; exact PX.out, CH.out⟩
      exact rs_1c Tryz.results120 _ _ _ (pf (0, 0)) _ rfl OF.out.range0 Tryz.underlying36 rfl (by kernel_rfl)
    have HLT := Hi hle
    have g1 : decide (q > 0) = true := by rw [decide_eq_true_iff]; omega
    clear hle hq
    cases hok : (z.next n 1).2.2 with
    | false =>
      have HU := Hi (fun w0 (h0 : Rdr d w0 X x z n) => rd_no h0 hok)
      have e1 := (n1_no hok).1
      replace HOV := Hi (show ((z.next n 1).1, (0, (z.next n 1).1.1.ftc (z.next n 1).1.2)) = R by have := HOV.out; rw [digitsM, if_neg HLT.out, if_pos hok] at this; exact this)
      obtain ⟨n1, hn1⟩ : ∃ n1, (z.next n 1).1.2 = n1 := ⟨_, rfl⟩
      rw [hn1] at HU HOV
      rw [e1] at HOV
      have e2 : (z.next n 1).1 = (z, n1) := Prod.ext e1 hn1
      rw [e2] at HOV
      obtain ⟨F, hF⟩ : ∃ F, z.ftc n1 = F := ⟨_, rfl⟩
      have HFL := Hi (fun w0 (h0 : Rdr d w0 X x z n1) => (rd_fault h0).mono (R' := fun e w' => e = .returned (.agg (pf F).toArray) ∧ Below w0.heap.size w0 w') fun e w' hh => by rw [hF] at hh; exact hh)
      have E := Hi (show R = ((z, n1), (0, F)) by have := HOV.out; rw [hF] at this; exact this.symm)
      clear hok e1 e2 hn1 hF HOV
      go_wp2_with (first
        | ((go_at_call 108; (with_reducible refine (HLF.out _ PX.out).mono ?_); rintro e wl ⟨rfl, kk, rfl⟩); have PX := Hi (PX.out.drewN kk); have CH := Hi (CH.out.drewN kk); have OF := Hi (OF.out.drewN kk); generalize World.drewN _ kk = wl at PX CH OF ⊢)
        | ((go_at_call 48; (with_reducible refine (rd_at PX.out).mono ?_); rintro e ws1 ⟨rfl, rfl⟩))
        | ((go_at_call 99; (with_reducible refine (HU.out _ PX.out).mono ?_); rintro e wp ⟨rfl, hp1, hc1⟩); have OF := Hi (hc1.obj OF.out (not_two PX.out (by omega))); have PX := Hi hp1; have CH := Hi (CH.out.trans hc1); clear hp1 hc1)
        | ((go_at_call 50; (with_reducible refine (HFL.out _ PX.out).mono ?_); rintro e wb ⟨rfl, hb⟩); have PX := Hi (PX.out.upon hb); have OF := Hi (OF.out.below hb OF.out.lt); have CH := Hi (CH.out.trans (chg_of_below hb _)); clear hb)
        | (refine store_o rfl 36 3 _ _ rfl (d) (pf F) rfl rfl (by kernel_rfl) (by kernel_rfl) (by kernel_rfl) OF.out (by first | rfl | simp) ?_; intro ws hst hO; have OF := Hi hO; have PX := Hi (PX.out.into hst (by omega)); have CH := Hi (Stored.chg hst CH.out (by have := HDe.out; omega)); clear hst hO))
      refine bodyPost_ret (v := .tuple #[.int .i64 0, .agg (pf F).toArray]) ?_ rfl ⟨by rw [E.out], by rw [E.out]; exact PX.out, CH.out⟩
      exact rs_1c Tryz.results120 _ _ _ (pf F) _ rfl OF.out.range0 Tryz.underlying36 rfl (by kernel_rfl)
    | true =>
      have HU := Hi (fun w0 (h0 : Rdr d w0 X x z n) => rd_yes h0 hok)
      obtain ⟨b, hb⟩ : ∃ b, byN z.s z.p = b := ⟨_, rfl⟩
      have hbb := byN_bd z.s z.p
      rw [hb] at hbb
      replace HOV := Hi (show (if b < 48 ∨ 57 < b then ((z, (z.next n 1).1.2), (u, (0, 0))) else digitsM f (z.next n 1).1.1 (z.next n 1).1.2 (min (10 * u + b - 48) 1000000000)) = R by have := HOV.out; rw [digitsM, if_neg HLT.out, if_neg (by rw [hok]; decide), hb] at this; exact this)
      have e1 := (n1_ok HZ.out hok).2.1
      obtain ⟨n1, hn1⟩ : ∃ n1, (z.next n 1).1.2 = n1 := ⟨_, rfl⟩
      rw [hn1, hb] at HU
      rw [hn1, e1] at HOV
      have HSK := Hi (fun w0 (h0 : Rdr d w0 X x { z with p := z.p + 1 } n1) => rd_back (w0 := w0) (m0 := n1) h0 HZ.out)
      obtain ⟨z1, hz1⟩ : ∃ q, ({ z with p := z.p + 1 } : Sr) = q := ⟨_, rfl⟩
      rw [hz1] at HU HOV HSK
      have HP1 := Hi (show z1.p = z.p + 1 ∧ z1.e = z.e from ⟨by rw [← hz1], by rw [← hz1]⟩)
      have HME := Hi (show ∀ w0, Rdr d w0 X x z1 n1 → x.e + 1 - (intOf ((w0.cell? ⟨X, 4, none⟩).getD undef)).toNat < x.e + 1 - z.p from fun w0 h0 => by
        have h1 := h0.pr.src.c4
        have h2 : z1.p ≤ z1.e := h0.pr.src.ok.pe
        have h3 := HP1.out
        have h4 := HEE.out
        rw [h1]
        show x.e + 1 - ((z1.p : Int)).toNat < _
        omega)
      have HFE := Hi (show z1.e < z1.p + f from by have := HFU.out; have := HP1.out; omega)
      clear hok hb e1 hn1 hz1
      by_cases h1 : b < 48
      · have g2 : decide (b < 48) = true := by rw [decide_eq_true_iff]; exact h1
        have E := Hi (show R = ((z, n1), (u, (0, 0))) by have := HOV.out; rw [if_pos (Or.inl h1)] at this; exact this.symm)
        clear h1 hbb
        go_wp2_with (first
          | ((with_reducible refine skip_g rfl ?_ ?_); rfl; intro _)
          | ((go_at_call 108; (with_reducible refine (HLF.out _ PX.out).mono ?_); rintro e wl ⟨rfl, kk, rfl⟩); have PX := Hi (PX.out.drewN kk); have CH := Hi (CH.out.drewN kk); have OF := Hi (OF.out.drewN kk); generalize World.drewN _ kk = wl at PX CH OF ⊢)
          | ((go_at_call 48; (with_reducible refine (rd_at PX.out).mono ?_); rintro e ws1 ⟨rfl, rfl⟩))
          | ((go_at_call 99; (with_reducible refine (HU.out _ PX.out).mono ?_); rintro e wp ⟨rfl, hp1, hc1⟩); have OF := Hi (hc1.obj OF.out (not_two PX.out (by omega))); have PX := Hi hp1; have CH := Hi (CH.out.trans hc1); clear hp1 hc1)
          | ((go_at_call 109; (with_reducible refine (HSK.out _ PX.out).mono ?_); rintro e wp ⟨rfl, hp1, hc1⟩); have OF := Hi (hc1.obj OF.out (not_two PX.out (by omega))); have PX := Hi hp1; have CH := Hi (CH.out.trans hc1); clear hp1 hc1)
          | (refine store_o rfl 36 3 _ _ rfl (d) (pf (0, 0)) rfl rfl (by kernel_rfl) (by kernel_rfl) (by kernel_rfl) OF.out (by first | rfl | simp) ?_; intro ws hst hO; have OF := Hi hO; have PX := Hi (PX.out.into hst (by omega)); have CH := Hi (Stored.chg hst CH.out (by have := HDe.out; omega)); clear hst hO))
        refine bodyPost_ret (v := .tuple #[.int .i64 u, .agg (pf (0, 0)).toArray]) ?_ rfl ⟨by rw [E.out], by rw [E.out]; exact PX.out, CH.out⟩
        exact rs_1c Tryz.results120 _ _ _ (pf (0, 0)) _ rfl OF.out.range0 Tryz.underlying36 rfl (by kernel_rfl)
      have g2 : decide (b < 48) = false := by rw [decide_eq_false_iff_not]; exact h1
      by_cases h2 : 57 < b
      · have g3 : decide (b > 57) = true := by rw [decide_eq_true_iff]; exact h2
        have E := Hi (show R = ((z, n1), (u, (0, 0))) by have := HOV.out; rw [if_pos (Or.inr h2)] at this; exact this.symm)
        clear h1 h2 hbb
        go_wp2_with (first
          | ((go_at_call 108; (with_reducible refine (HLF.out _ PX.out).mono ?_); rintro e wl ⟨rfl, kk, rfl⟩); have PX := Hi (PX.out.drewN kk); have CH := Hi (CH.out.drewN kk); have OF := Hi (OF.out.drewN kk); generalize World.drewN _ kk = wl at PX CH OF ⊢)
          | ((go_at_call 48; (with_reducible refine (rd_at PX.out).mono ?_); rintro e ws1 ⟨rfl, rfl⟩))
          | ((go_at_call 99; (with_reducible refine (HU.out _ PX.out).mono ?_); rintro e wp ⟨rfl, hp1, hc1⟩); have OF := Hi (hc1.obj OF.out (not_two PX.out (by omega))); have PX := Hi hp1; have CH := Hi (CH.out.trans hc1); clear hp1 hc1)
          | ((go_at_call 109; (with_reducible refine (HSK.out _ PX.out).mono ?_); rintro e wp ⟨rfl, hp1, hc1⟩); have OF := Hi (hc1.obj OF.out (not_two PX.out (by omega))); have PX := Hi hp1; have CH := Hi (CH.out.trans hc1); clear hp1 hc1)
          | (refine store_o rfl 36 3 _ _ rfl (d) (pf (0, 0)) rfl rfl (by kernel_rfl) (by kernel_rfl) (by kernel_rfl) OF.out (by first | rfl | simp) ?_; intro ws hst hO; have OF := Hi hO; have PX := Hi (PX.out.into hst (by omega)); have CH := Hi (Stored.chg hst CH.out (by have := HDe.out; omega)); clear hst hO))
        refine bodyPost_ret (v := .tuple #[.int .i64 u, .agg (pf (0, 0)).toArray]) ?_ rfl ⟨by rw [E.out], by rw [E.out]; exact PX.out, CH.out⟩
        exact rs_1c Tryz.results120 _ _ _ (pf (0, 0)) _ rfl OF.out.range0 Tryz.underlying36 rfl (by kernel_rfl)
      have g3 : decide (b > 57) = false := by rw [decide_eq_false_iff_not]; exact h2
      replace HOV := Hi (show digitsM f z1 n1 (min (10 * u + b - 48) 1000000000) = R by have := HOV.out; rw [if_neg (by omega)] at this; exact this)
      have hu0 := HU0.out.1
      have hu1 := HU0.out.2
      have HB := Hi (show 48 ≤ b ∧ b ≤ 57 by omega)
      have w1 : IntKind.i64.wrap (10 * u) = 10 * u := i64_wrap_id _ (by omega) (by omega)
      have w2 : IntKind.i64.wrap (10 * u + b) = 10 * u + b := i64_wrap_id _ (by omega) (by omega)
      have w3 : IntKind.i64.wrap (10 * u + b - 48) = 10 * u + b - 48 := i64_wrap_id _ (by omega) (by omega)
      clear h1 h2 hbb
      go_wp2_with (first
        | ((go_at_call 108; (with_reducible refine (HLF.out _ PX.out).mono ?_); rintro e wl ⟨rfl, kk, rfl⟩); have PX := Hi (PX.out.drewN kk); have CH := Hi (CH.out.drewN kk); have OF := Hi (OF.out.drewN kk); generalize World.drewN _ kk = wl at PX CH OF ⊢)
        | ((go_at_call 48; (with_reducible refine (rd_at PX.out).mono ?_); rintro e ws1 ⟨rfl, rfl⟩))
        | ((go_at_call 99; (with_reducible refine (HU.out _ PX.out).mono ?_); rintro e wp ⟨rfl, hp1, hc1⟩); have OF := Hi (hc1.obj OF.out (not_two PX.out (by omega))); have PX := Hi hp1; have CH := Hi (CH.out.trans hc1); clear hp1 hc1))
      go_roundw
      case rel =>
        have := HB.out
        exact ⟨_, _, _, min (10 * u + b - 48) 1000000000, by rw [show min (10 * u + b - 48) 1000000000 = if 1000000000 < 10 * u + b - 48 then 1000000000 else 10 * u + b - 48 by split <;> omega], HOV.out, by omega, HFE.out, PX.out, OF.out, CH.out⟩
      case measure => exact HME.out _ PX.out
end Go.Proofs.YtcjjfnghgajefaaGreat

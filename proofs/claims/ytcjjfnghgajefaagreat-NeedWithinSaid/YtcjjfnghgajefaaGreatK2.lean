/- A source that is read on; token.Over, walked. -/
import Derived.Test.YtcjjfnghgajefaaGreatK1
import Derived.WalkMore
import Derived.Deep.CutBlock
import Derived.Deep.CutRange
import Derived.Test.YtcjjfnghgajefaaGreatK0
namespace Go.Proofs.YtcjjfnghgajefaaGreat
open Go.RowKit
set_option linter.unusedVariables false
set_option linter.unusedSimpArgs false
structure Rdr (d : Nat) (w : World) (X : Nat) (x y : Sr) (m : Led) : Prop where
  pr : Pair w X y m
  eL : y.L = x.L
  es : y.s = x.s
  eb : y.b = x.b
  ee : y.e = x.e
  lX : X < d
  lL : x.L < d
theorem Rdr.upon {d : Nat} {w w' : World} {X : Nat} {x y : Sr} {m : Led} (h : Rdr d w X x y m) (hb : Below w.heap.size w w') : Rdr d w' X x y m := ⟨h.pr.upon hb h.pr.src.lt h.pr.led.lt, h.eL, h.es, h.eb, h.ee, h.lX, h.lL⟩
theorem Rdr.into {d b o : Nat} {vs : List Value} {w w' : World} {X : Nat} {x y : Sr} {m : Led} (h : Rdr d w X x y m) (hst : Stored w b o vs w') (hb : d ≤ b) : Rdr d w' X x y m :=
  ⟨h.pr.into hst (by have := h.lX; omega) (by have := h.lL; have := h.eL; omega), h.eL, h.es, h.eb, h.ee, h.lX, h.lL⟩
theorem Rdr.alloc {d : Nat} {w : World} {X : Nat} {x y : Sr} {m : Led} (h : Rdr d w X x y m) (o : Obj) : Rdr d (w.alloc o) X x y m := ⟨h.pr.alloc o, h.eL, h.es, h.eb, h.ee, h.lX, h.lL⟩
theorem Rdr.drewN {d : Nat} {w : World} {X : Nat} {x y : Sr} {m : Led} (h : Rdr d w X x y m) (n : Nat) : Rdr d (w.drewN n) X x y m := ⟨h.pr.drN n, h.eL, h.es, h.eb, h.ee, h.lX, h.lL⟩
theorem Rdr.drew1 {d : Nat} {w : World} {X : Nat} {x y : Sr} {m : Led} (h : Rdr d w X x y m) : Rdr d w.drew X x y m := ⟨h.pr.drew1, h.eL, h.es, h.eb, h.ee, h.lX, h.lL⟩
theorem not_two {d k : Nat} {w : World} {X : Nat} {x y : Sr} {m : Led} (h : Rdr d w X x y m) (hk : d ≤ k) : ¬ two X x k := fun hh => by
  have h1 := h.lX
  have h2 := h.lL
  rcases hh with hh | hh <;> omega
theorem Rdr.of {w : World} {X : Nat} {x : Sr} {m : Led} (h : Pair w X x m) : Rdr w.heap.size w X x x m := ⟨h, rfl, rfl, rfl, rfl, h.src.lt, h.led.lt⟩
theorem Rdr.self {d : Nat} {w : World} {X : Nat} {x y : Sr} {m : Led} (h : Rdr d w X x y m) : Rdr w.heap.size w X x y m := ⟨h.pr, h.eL, h.es, h.eb, h.ee, h.pr.src.lt, by have := h.pr.led.lt; rw [h.eL] at this; exact this⟩
theorem Rdr.to {d d' : Nat} {w w' : World} {X : Nat} {x y y' : Sr} {m m' : Led} (h : Rdr d' w' X x y' m') (k : Rdr d w X x y m) : Rdr d w' X x y' m' := ⟨h.pr, h.eL, h.es, h.eb, h.ee, k.lX, k.lL⟩
theorem Rdr.by {d : Nat} {w w' : World} {X : Nat} {x y : Sr} {m m' : Led} (h : Rdr d w X x y m) (p : Nat) (hp : Pair w' X { y with p := p } m') (hc : Chg (two X y) w w') : Rdr d w' X x { y with p := p } m' ∧ Chg (two X x) w w' :=
  ⟨⟨hp, h.eL, h.es, h.eb, h.ee, h.lX, h.lL⟩, hc.mono (fun k _ hk => hk.elim Or.inl fun hk => Or.inr (hk.trans h.eL))⟩
theorem rd_at {d : Nat} {w : World} {X : Nat} {x y : Sr} {m : Led} (h : Rdr d w X x y m) : Calls Tryz.prog 48 #[.pointer (some ⟨X, 0, none⟩)] w fun e w' => e = .returned (.int .i64 (y.p : Int)) ∧ w = w' := at_any X y w h.pr.src
theorem rd_ledger {d : Nat} {w : World} {X : Nat} {x y : Sr} {m : Led} (h : Rdr d w X x y m) : Calls Tryz.prog 139 #[.pointer (some ⟨X, 0, none⟩)] w fun e w' => e = .returned (.pointer (some ⟨x.L, 0, none⟩)) ∧ w = w' := by
  have := sledger_any X y w h.pr.src
  rw [h.eL] at this
  exact this
theorem rd_broken {d : Nat} {w : World} {X : Nat} {x y : Sr} {m : Led} (h : Rdr d w X x y m) : Calls Tryz.prog 83 #[.pointer (some ⟨x.L, 0, none⟩)] w fun e w' => e = .returned (.bool m.br) ∧ w = w' := by
  have := broken_any y.L m w h.pr.led
  rw [h.eL] at this
  exact this
theorem rd_yes {d : Nat} {w : World} {X : Nat} {x y : Sr} {m : Led} (h : Rdr d w X x y m) (hok : (y.next m 1).2.2 = true) : Calls Tryz.prog 99 #[.pointer (some ⟨X, 0, none⟩)] w fun e w' => e = .returned (.tuple #[.int .i64 (byN y.s y.p), .bool true]) ∧ Rdr d w' X x { y with p := y.p + 1 } (y.next m 1).1.2 ∧ Chg (two X x) w w' := by
  refine (u8_yes X y m w h.pr hok).mono ?_
  rintro e w' ⟨he, hp, hc⟩
  exact ⟨he, h.by _ hp hc⟩
theorem rd_no {d : Nat} {w : World} {X : Nat} {x y : Sr} {m : Led} (h : Rdr d w X x y m) (hok : (y.next m 1).2.2 = false) : Calls Tryz.prog 99 #[.pointer (some ⟨X, 0, none⟩)] w fun e w' => e = .returned (.tuple #[.int .i64 0, .bool false]) ∧ Rdr d w' X x y (y.next m 1).1.2 ∧ Chg (two X x) w w' := by
  refine (u8_no X y m w h.pr hok).mono ?_
  rintro e w' ⟨he, hp, hc⟩
  exact ⟨he, h.by y.p hp hc⟩
theorem rd_back {d : Nat} {w w0 : World} {X : Nat} {x y : Sr} {m m0 : Led} (h : Rdr d w X x { y with p := y.p + 1 } m) (hy : y.ok) : Calls Tryz.prog 109 #[.pointer (some ⟨X, 0, none⟩), .int .i64 (y.p : Int)] w fun e w' => e = .returned (.bool true) ∧ Rdr d w' X x y m ∧ Chg (two X x) w w' := by
  refine (seek_back X y m w h.pr hy).mono ?_
  rintro e w' ⟨he, hp, hc⟩
  exact ⟨he, h.by y.p hp hc⟩
theorem rd_fault {d : Nat} {w : World} {X : Nat} {x y : Sr} {m : Led} (h : Rdr d w X x y m) : Calls Tryz.prog 50 #[.pointer (some ⟨X, 0, none⟩), .int .i64 3] w fun e w' => e = .returned (.agg (pf (y.ftc m)).toArray) ∧ Below w.heap.size w w' := faultp_any X y m w h.pr
abbrev RdPost (d : Nat) (w : World) (X : Nat) (x : Sr) (q : SL) (v : Value) (e : Ending) (w' : World) : Prop := e = .returned v ∧ Rdr d w' X x q.1 q.2 ∧ Chg (two X x) w w'
set_option maxRecDepth 100000 in
set_option maxHeartbeats 4000000 in
theorem over_any {d0 : Nat} {w : World} {X : Nat} {x y : Sr} {m : Led} (h : Rdr d0 w X x y m) : Calls Tryz.prog 134 #[.pointer (some ⟨X, 0, none⟩)] w (RdPost d0 w X x (y.over m).1 (.agg (pf (y.over m).2).toArray)) := by
  suffices H : Calls Tryz.prog 134 #[.pointer (some ⟨X, 0, none⟩)] w (RdPost w.heap.size w X x (y.over m).1 (.agg (pf (y.over m).2).toArray)) from H.mono fun e w' hh => ⟨hh.1, hh.2.1.to h, hh.2.2⟩
  have PX := Hi (h.self.alloc (.cells #[.int .i64 0, .int .i64 0, .int .i64 0] 36))
  have OF := Hi (obj1_new w #[.int .i64 0, .int .i64 0, .int .i64 0] 36)
  have CH := Hi ((Chg.refl (two X x) w).alloc (.cells #[.int .i64 0, .int .i64 0, .int .i64 0] 36))
  have HS := Hi (show y.e < y.p + y.fu by unfold Sr.fu; have := h.pr.src.ok.pe; omega)
  obtain ⟨R, hR⟩ : ∃ R, y.over m = R := ⟨_, rfl⟩
  have HRE := Hi hR
  unfold Sr.over at hR
  have HRE := Hi hR
  obtain ⟨d, hd⟩ : ∃ d, w.heap.size = d := ⟨_, rfl⟩
  have HDe := Hi hd
  rw [(show y.over m = R from hR)]
  rw [hd] at PX OF ⊢
  clear h hR
  go_enter Tryz.func134, Tryz.ntmps134
  go_upto_region 1 with (fail)
  clear hd
  generalize World.alloc _ _ = wr at PX OF CH ⊢
  go_step3
  go_wp2_with fail
  go_step3
  go_wp2_with fail
  go_loopw [3] (fun cc wr => ∃ (f : Nat) (z : Sr) (n : Led) (rm : Bool), cc = .bool rm ∧ overM f z n rm = R ∧ z.e < z.p + f ∧ Rdr d wr X x z n ∧ Obj1 wr d #[.int .i64 0, .int .i64 0, .int .i64 0] 36 ∧ Chg (two X x) w wr) (fun _ wr => x.e + 1 - (intOf ((wr.cell? ⟨X, 4, none⟩).getD undef)).toNat)
  case atStart => exact ⟨_, _, _, _, rfl, HRE.out, HS.out, PX.out, OF.out, CH.out⟩
  case round =>
    obtain ⟨f, z, n, rm, rfl, hov, hfu, hrd, hof, hch⟩ := hrel
    obtain ⟨f, rfl⟩ : ∃ g, f = g + 1 := ⟨f - 1, by have := hrd.pr.src.ok.pe; omega⟩
    have hm0 : intOf ((wr.cell? ⟨X, 4, none⟩).getD undef) = (z.p : Int) := by
      have := hrd.pr.src.c4
      rw [this]; rfl
    rw [hm0, Int.toNat_natCast]
    have HZ := Hi hrd.pr.src.ok
    have HEE := Hi hrd.ee
    have HFU := Hi hfu
    have HOV := Hi hov
    have PX := Hi hrd
    have OF := Hi hof
    have CH := Hi hch
    clear hm0 hov hfu hrd hof hch HS HRE
    cases hok : (z.next n 1).2.2 with
    | false =>
      have HU := Hi (fun w0 (h0 : Rdr d w0 X x z n) => rd_no h0 hok)
      replace HOV := Hi (show ((z.next n 1).1, if (z.next n 1).1.2.br = true then (z.next n 1).1.1.ftc (z.next n 1).1.2 else (0, 0)) = R by have := HOV.out; rw [overM, if_pos hok] at this; exact this)
      have e1 := (n1_no hok).1
      obtain ⟨n1, hn1⟩ : ∃ n1, (z.next n 1).1.2 = n1 := ⟨_, rfl⟩
      rw [hn1] at HU HOV
      rw [e1] at HOV
      have e2 : (z.next n 1).1 = (z, n1) := Prod.ext e1 hn1
      rw [e2] at HOV
      cases hbr : n1.br with
      | true =>
        have HBR := Hi (fun w0 (h0 : Rdr d w0 X x z n1) => (rd_broken h0).mono (R' := fun e w' => e = .returned (.bool true) ∧ w0 = w') fun e w' hh => by rw [hbr] at hh; exact hh)
        obtain ⟨F, hF⟩ : ∃ F, z.ftc n1 = F := ⟨_, rfl⟩
        have HFL := Hi (fun w0 (h0 : Rdr d w0 X x z n1) => (rd_fault h0).mono (R' := fun e w' => e = .returned (.agg (pf F).toArray) ∧ Below w0.heap.size w0 w') fun e w' hh => by rw [hF] at hh; exact hh)
        have E := Hi (show R = ((z, n1), F) by have := HOV.out; rw [if_pos hbr, hF] at this; exact this.symm)
        clear hok e1 e2 hn1 hbr hF HOV
        go_upto_region 5 with (first
          | ((go_at_call 48; (with_reducible refine (rd_at PX.out).mono ?_); rintro e ws1 ⟨rfl, rfl⟩))
          | ((go_at_call 99; (with_reducible refine (HU.out _ PX.out).mono ?_); rintro e wp ⟨rfl, hp1, hc1⟩); have OF := Hi (hc1.obj OF.out (not_two PX.out (by omega))); have PX := Hi hp1; have CH := Hi (CH.out.trans hc1); clear hp1 hc1)
          | ((go_at_call 139; (with_reducible refine (rd_ledger PX.out).mono ?_); rintro e ws1 ⟨rfl, rfl⟩))
          | ((go_at_call 83; (with_reducible refine (HBR.out _ PX.out).mono ?_); rintro e ws1 ⟨rfl, rfl⟩)))
        go_wp2_with (first
          | ((go_at_call 50; (with_reducible refine (HFL.out _ PX.out).mono ?_); rintro e wb ⟨rfl, hb⟩); have PX := Hi (PX.out.upon hb); have OF := Hi (OF.out.below hb OF.out.lt); have CH := Hi (CH.out.trans (chg_of_below hb _)); clear hb)
          | (refine store_o rfl 36 3 _ _ rfl (d) (pf F) rfl rfl (by kernel_rfl) (by kernel_rfl) (by kernel_rfl) OF.out (by first | rfl | simp) ?_; intro ws hst hO; have OF := Hi hO; have PX := Hi (PX.out.into hst (by omega)); have CH := Hi (Stored.chg hst CH.out (by have := HDe.out; omega)); clear hst hO))
        rw [Exit.noGoto_ret]
        refine bodyPost_ret (v := .agg (pf F).toArray) ?_ rfl ⟨by rw [E.out], by rw [E.out]; exact PX.out, CH.out⟩
        exact results_c Tryz.results134 _ _ _ (pf F) _ rfl OF.out.range0 Tryz.underlying36 rfl (by kernel_rfl)
      | false =>
        have HBR := Hi (fun w0 (h0 : Rdr d w0 X x z n1) => (rd_broken h0).mono (R' := fun e w' => e = .returned (.bool false) ∧ w0 = w') fun e w' hh => by rw [hbr] at hh; exact hh)
        have E := Hi (show R = ((z, n1), (0, 0)) by have := HOV.out; rw [if_neg (by rw [hbr]; decide)] at this; exact this.symm)
        clear hok e1 e2 hn1 hbr HOV
        go_upto_region 6 with (first
          | ((go_at_call 48; (with_reducible refine (rd_at PX.out).mono ?_); rintro e ws1 ⟨rfl, rfl⟩))
          | ((go_at_call 99; (with_reducible refine (HU.out _ PX.out).mono ?_); rintro e wp ⟨rfl, hp1, hc1⟩); have OF := Hi (hc1.obj OF.out (not_two PX.out (by omega))); have PX := Hi hp1; have CH := Hi (CH.out.trans hc1); clear hp1 hc1)
          | ((go_at_call 139; (with_reducible refine (rd_ledger PX.out).mono ?_); rintro e ws1 ⟨rfl, rfl⟩))
          | ((go_at_call 83; (with_reducible refine (HBR.out _ PX.out).mono ?_); rintro e ws1 ⟨rfl, rfl⟩)))
        go_wp2_with (first
          | (refine store_o rfl 36 3 _ _ rfl (d) (pf (0, 0)) rfl rfl (by kernel_rfl) (by kernel_rfl) (by kernel_rfl) OF.out (by first | rfl | simp) ?_; intro ws hst hO; have OF := Hi hO; have PX := Hi (PX.out.into hst (by omega)); have CH := Hi (Stored.chg hst CH.out (by have := HDe.out; omega)); clear hst hO))
        rw [Exit.noGoto_ret]
        refine bodyPost_ret (v := .agg (pf (0, 0)).toArray) ?_ rfl ⟨by rw [E.out], by rw [E.out]; exact PX.out, CH.out⟩
        exact results_c Tryz.results134 _ _ _ (pf (0, 0)) _ rfl OF.out.range0 Tryz.underlying36 rfl (by kernel_rfl)
    | true =>
      have HU := Hi (fun w0 (h0 : Rdr d w0 X x z n) => rd_yes h0 hok)
      obtain ⟨b, hb⟩ : ∃ b, byN z.s z.p = b := ⟨_, rfl⟩
      replace HOV := Hi (show (if rm = true then overM f (z.next n 1).1.1 (z.next n 1).1.2 (!endB b) else if b = 35 then overM f (z.next n 1).1.1 (z.next n 1).1.2 true else if tblankB b = true then overM f (z.next n 1).1.1 (z.next n 1).1.2 false else ((z, (z.next n 1).1.2), (0, 0))) = R by have := HOV.out; rw [overM, if_neg (by rw [hok]; decide), hb] at this; exact this)
      have e1 := (n1_ok HZ.out hok).2.1
      obtain ⟨n1, hn1⟩ : ∃ n1, (z.next n 1).1.2 = n1 := ⟨_, rfl⟩
      rw [hn1, hb] at HU
      rw [hn1, e1] at HOV
      have HSK := Hi (fun w0 (h0 : Rdr d w0 X x { z with p := z.p + 1 } n1) => rd_back (w0 := w0) (m0 := n1) h0 HZ.out)
      obtain ⟨z1, hz1⟩ : ∃ q, ({ z with p := z.p + 1 } : Sr) = q := ⟨_, rfl⟩
      rw [hz1] at HU HOV HSK
      have HP1 := Hi (show z1.p = z.p + 1 ∧ z1.e = z.e from ⟨by rw [← hz1], by rw [← hz1]⟩)
      have HME := Hi (show ∀ w0, Rdr d w0 X x z1 n1 → x.e + 1 - (intOf ((w0.cell? ⟨X, 4, none⟩).getD undef)).toNat < x.e + 1 - z.p from fun w0 h0 => by
        have h1 := h0.pr.src.c4
        have h2 : z1.p ≤ z1.e := h0.pr.src.ok.pe
        have h3 := HP1.out
        have h4 := HEE.out
        rw [h1]
        show x.e + 1 - ((z1.p : Int)).toNat < _
        omega)
      have HFE := Hi (show z1.e < z1.p + f from by have := HFU.out; have := HP1.out; omega)
      clear hok hb e1 hn1 hz1
      cases rm with
      | true =>
        replace HOV := Hi (show overM f z1 n1 (!endB b) = R by have := HOV.out; rw [if_pos rfl] at this; exact this)
        have HEN := Hi (fun w0 => tend_any b w0)
        obtain ⟨g, hg⟩ : ∃ g, endB b = g := ⟨_, rfl⟩
        rw [hg] at HOV HEN
        clear hg
        cases g with
        | true =>
          go_wp2_with (first
            | ((with_reducible refine skip_g rfl ?_ ?_); rfl; intro _)
            | ((go_at_call 48; (with_reducible refine (rd_at PX.out).mono ?_); rintro e ws1 ⟨rfl, rfl⟩))
            | ((go_at_call 99; (with_reducible refine (HU.out _ PX.out).mono ?_); rintro e wp ⟨rfl, hp1, hc1⟩); have OF := Hi (hc1.obj OF.out (not_two PX.out (by omega))); have PX := Hi hp1; have CH := Hi (CH.out.trans hc1); clear hp1 hc1)
            | ((go_at_call 140; (with_reducible refine (HEN.out _).mono ?_); rintro e ws1 ⟨rfl, rfl⟩)))
          go_roundw
          case rel => exact ⟨_, _, _, false, rfl, HOV.out, HFE.out, PX.out, OF.out, CH.out⟩
          case measure => exact HME.out _ PX.out
        | false =>
          go_wp2_with (first
            | ((with_reducible refine skip_g rfl ?_ ?_); rfl; intro _)
            | ((go_at_call 48; (with_reducible refine (rd_at PX.out).mono ?_); rintro e ws1 ⟨rfl, rfl⟩))
            | ((go_at_call 99; (with_reducible refine (HU.out _ PX.out).mono ?_); rintro e wp ⟨rfl, hp1, hc1⟩); have OF := Hi (hc1.obj OF.out (not_two PX.out (by omega))); have PX := Hi hp1; have CH := Hi (CH.out.trans hc1); clear hp1 hc1)
            | ((go_at_call 140; (with_reducible refine (HEN.out _).mono ?_); rintro e ws1 ⟨rfl, rfl⟩)))
          go_roundw
          case rel => exact ⟨_, _, _, true, rfl, HOV.out, HFE.out, PX.out, OF.out, CH.out⟩
          case measure => exact HME.out _ PX.out
      | false =>
        by_cases hb35 : b = 35
        · have g1 : (b == 35) = true := by rw [beq_iff_eq]; exact hb35
          replace HOV := Hi (show overM f z1 n1 true = R by have := HOV.out; rw [if_neg (by decide), if_pos hb35] at this; exact this)
          clear hb35
          go_wp2_with (first
            | ((with_reducible refine skip_g rfl ?_ ?_); rfl; intro _)
            | ((go_at_call 48; (with_reducible refine (rd_at PX.out).mono ?_); rintro e ws1 ⟨rfl, rfl⟩))
            | ((go_at_call 99; (with_reducible refine (HU.out _ PX.out).mono ?_); rintro e wp ⟨rfl, hp1, hc1⟩); have OF := Hi (hc1.obj OF.out (not_two PX.out (by omega))); have PX := Hi hp1; have CH := Hi (CH.out.trans hc1); clear hp1 hc1))
          go_roundw
          case rel => exact ⟨_, _, _, true, rfl, HOV.out, HFE.out, PX.out, OF.out, CH.out⟩
          case measure => exact HME.out _ PX.out
        have g1 : (b == 35) = false := by rw [beq_eq_false_iff_ne]; exact hb35
        replace HOV := Hi (show (if tblankB b = true then overM f z1 n1 false else ((z, n1), (0, 0))) = R by have := HOV.out; rw [if_neg (by decide), if_neg hb35] at this; exact this)
        have HBL := Hi (fun w0 => tblank_any b w0)
        obtain ⟨g, hg⟩ : ∃ g, tblankB b = g := ⟨_, rfl⟩
        rw [hg] at HOV HBL
        clear hg hb35
        cases g with
        | true =>
          replace HOV := Hi (show overM f z1 n1 false = R by have := HOV.out; rw [if_pos rfl] at this; exact this)
          go_wp2_with (first
            | ((with_reducible refine skip_g rfl ?_ ?_); rfl; intro _)
            | ((go_at_call 48; (with_reducible refine (rd_at PX.out).mono ?_); rintro e ws1 ⟨rfl, rfl⟩))
            | ((go_at_call 99; (with_reducible refine (HU.out _ PX.out).mono ?_); rintro e wp ⟨rfl, hp1, hc1⟩); have OF := Hi (hc1.obj OF.out (not_two PX.out (by omega))); have PX := Hi hp1; have CH := Hi (CH.out.trans hc1); clear hp1 hc1)
            | ((go_at_call 79; (with_reducible refine (HBL.out _).mono ?_); rintro e ws1 ⟨rfl, rfl⟩)))
          go_roundw
          case rel => exact ⟨_, _, _, false, rfl, HOV.out, HFE.out, PX.out, OF.out, CH.out⟩
          case measure => exact HME.out _ PX.out
        | false =>
          have E := Hi (show R = ((z, n1), (0, 0)) by have := HOV.out; rw [if_neg (by decide)] at this; exact this.symm)
          go_upto_region 13 with (first
            | ((with_reducible refine skip_g rfl ?_ ?_); rfl; intro _)
            | ((go_at_call 48; (with_reducible refine (rd_at PX.out).mono ?_); rintro e ws1 ⟨rfl, rfl⟩))
            | ((go_at_call 99; (with_reducible refine (HU.out _ PX.out).mono ?_); rintro e wp ⟨rfl, hp1, hc1⟩); have OF := Hi (hc1.obj OF.out (not_two PX.out (by omega))); have PX := Hi hp1; have CH := Hi (CH.out.trans hc1); clear hp1 hc1)
            | ((go_at_call 79; (with_reducible refine (HBL.out _).mono ?_); rintro e ws1 ⟨rfl, rfl⟩))
            | ((go_at_call 109; (with_reducible refine (HSK.out _ PX.out).mono ?_); rintro e wp ⟨rfl, hp1, hc1⟩); have OF := Hi (hc1.obj OF.out (not_two PX.out (by omega))); have PX := Hi hp1; have CH := Hi (CH.out.trans hc1); clear hp1 hc1))
          go_wp2_with (first
            | (refine store_o rfl 36 3 _ _ rfl (d) (pf (0, 0)) rfl rfl (by kernel_rfl) (by kernel_rfl) (by kernel_rfl) OF.out (by first | rfl | simp) ?_; intro ws hst hO; have OF := Hi hO; have PX := Hi (PX.out.into hst (by omega)); have CH := Hi (Stored.chg hst CH.out (by have := HDe.out; omega)); clear hst hO))
          rw [Exit.noGoto_ret]
          refine bodyPost_ret (v := .agg (pf (0, 0)).toArray) ?_ rfl ⟨by rw [E.out], by rw [E.out]; exact PX.out, CH.out⟩
          exact results_c Tryz.results134 _ _ _ (pf (0, 0)) _ rfl OF.out.range0 Tryz.underlying36 rfl (by kernel_rfl)
end Go.Proofs.YtcjjfnghgajefaaGreat

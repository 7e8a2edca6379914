/- Parts. -/
import Derived.Test.YtfchnibjjokmbaaGreatK9
set_option linter.all false
set_option maxRecDepth 100000
set_option maxHeartbeats 16000000
open Go.Value renaming int → J, pointer → Y
open Go.IntKind renaming i64 → I, u8 → U
namespace Go.Proofs.YtfchnibjjokmbaaGreat
open Go.RowKit
def col3 (s : ByteArray) : List Int := [aG s 2, aG s 1, aG s 0, 255]
def palR (sz : Int) : Pal → Sr → Led → Nat → (Pal × (Sr × Led)) × Bool
 | p, x, l, 0 => ((p, (x, l)), true)
 | p, x, l, n + 1 => if (x.next l sz).2.2 = false then ((p, (x.next l sz).1), false) else palR sz (p.add (col3 (x.next l sz).2.1)) (x.next l sz).1.1 (x.next l sz).1.2 n
theorem nextL_8 (x : Sr) (l : Led) (n : Int) : (x.next l n).1.1.L = x.L := by unfold Sr.next; split <;> rfl
theorem nextz_8 (x : Sr) (l : Led) (n : Int) (hx : x.ok) (h : (x.next l n).2.2 = true) : ((x.next l n).2.1.size : Int) = n := by
 unfold Sr.next at h ⊢
 by_cases hc : (l.work 1).2 = true ∧ 0 ≤ n ∧ n ≤ (x.e : Int) - x.p
 · rw [if_pos hc]
   have h1 := hx.es
   have h2 := hx.pe
   show ((x.s.extract x.p (x.p + n.toNat)).size : Int) = n
   rw [ByteArray.size_extract]
   omega
 · rw [if_neg hc] at h; cases h
def prS (P X : Nat) (p : Pal) (x : Sr) (k : Nat) : Prop := k = P ∨ k = p.b.g ∨ k = X ∨ k = x.L
theorem pread_any (P X : Nat) (p : Pal) (x : Sr) (l : Led) (n : Nat) (k : Int) (w : World) (hk : k = 3 ∨ k = 4) (h : PalAt w P p) (hx : Pair w X x l) (hn : p.n + n ≤ p.most)
 (n1 : P ≠ X) (n2 : P ≠ x.L) (n3 : p.B ≠ X) (n4 : p.B ≠ x.L) (n5 : p.b.g ≠ X) (n6 : p.b.g ≠ x.L) :
 Calls Tryz.prog 130 #[Y (some ⟨P, 0, none⟩), Y (some ⟨X, 0, none⟩), J I n, J I k] w fun e w' =>
  e = .returned (J I (if (palR k p x l n).2 = true then 0 else 5)) ∧ PalAt w' P (palR k p x l n).1.1 ∧ Pair w' X (palR k p x l n).1.2.1 (palR k p x l n).1.2.2 ∧ Chg (prS P X p x) w w' := by
 obtain ⟨ec, hec⟩ : ∃ ec : Int, (if (palR k p x l n).2 = true then (0 : Int) else 5) = ec := ⟨_, rfl⟩
 rw [hec]
 have HEC := Hi hec
 clear hec
 have hz : sizeK k = k := by rcases hk with rfl | rfl <;> rfl
 have HSZ := Hi (fun w0 => (psize_any k w0 (by omega)).mono (R' := fun e w' => e = .returned (J I k) ∧ Chg (fun _ => False) w0 w') fun e w' hh => by rw [hz] at hh; exact hh)
 have hk0 : (k == 0) = false := by rcases hk with rfl | rfl <;> rfl
 have HP := Hi h
 have HX := Hi hx
 have HK := Hi hk
 have hmo := h.mo
 have N1 := Hi n1
 have N2 := Hi n2
 have N3 := Hi n3
 have N4 := Hi n4
 have N5 := Hi n5
 have N6 := Hi n6
 have HNM := Hi hn
 obtain ⟨most, hm⟩ : ∃ m, p.most = m := ⟨_, rfl⟩
 obtain ⟨pn, hpn⟩ : ∃ m, p.n = m := ⟨_, rfl⟩
 have HCM := Hi (fun w' (hC : Chg (fun _ => False) w w') => (show w'.cell? ⟨P, 2, none⟩ = some (J I most) from by rw [← hm]; exact ((h.chg hC (fun h => h) (fun h => h) (fun h => h)).obj.cell 2).trans rfl))
 have HCN := Hi (fun w' (hC : Chg (fun _ => False) w w') => (show w'.cell? ⟨P, 1, none⟩ = some (J I pn) from by rw [← hpn]; exact ((h.chg hC (fun h => h) (fun h => h) (fun h => h)).obj.cell 1).trans rfl))
 rw [hm, hpn] at hn
 rw [hm] at hmo
 clear hz hk h hx hm hpn n1 n2 n3 n4 n5 n6
 go_enter Tryz.func130, Tryz.ntmps130
 go_wp2_with (first
  | ((with_reducible refine aE rfl ?_ ?_); rfl; intro _)
  | ((go_at_call 166; (with_reducible refine (HSZ.out _).mono ?_); rintro e w1 ⟨rfl, hC⟩); have C1 := Hi hC; have k2 := HCM.out _ hC; have k1 := HCN.out _ hC; clear hC))
 go_quiet (fail)
 go_wp2_with fail
 have CD := Hi (C1.out.drewN nq)
 generalize World.drewN _ _ = wd at CD ⊢
 clear k1 k2
 obtain ⟨R, hR⟩ : ∃ R, palR k p x l n = R := ⟨_, rfl⟩
 have HRE := Hi hR
 go_loopw [40] (fun c wr => ∃ (i : Nat) (q : Pal) (y : Sr) (m : Led), i ≤ n ∧ c = J I i ∧ palR k q y m (n - i) = R ∧ PalAt wr P q ∧ Pair wr X y m ∧ q.B = p.B ∧ q.b.g = p.b.g ∧ q.n + (n - i) ≤ q.most ∧ y.L = x.L ∧ Chg (prS P X p x) w wr) (fun c _ => n - (intOf c).toNat)
 case atStart => exact ⟨0, p, x, l, Nat.zero_le _, rfl, HRE.out, HP.out.chg CD.out (fun h => h) (fun h => h) (fun h => h), ⟨HX.out.src.chg CD.out (fun h => h), HX.out.led.chg CD.out (fun h => h)⟩, rfl, rfl, HNM.out, rfl, CD.out.mono (fun _ _ h => h.elim)⟩
 case round =>
  obtain ⟨i, q, y, m, hi, rfl, hrl, hpal, hpr, hqB, hqg, hqn, hyL, hch⟩ := hrel
  have HRL := Hi hrl
  have HPA := Hi hpal
  have HPR := Hi hpr
  have HQB := Hi hqB
  have HQG := Hi hqg
  have HYL := Hi hyL
  have CH := Hi hch
  have HQN := Hi hqn
  clear hrl hpal hpr hqB hqg hyL hch hqn hR
  by_cases hlt : i < n
  rotate_left
  · obtain rfl : i = n := by omega
    have E := Hi (show R = ((q, (y, m)), true) by rw [← HRL.out, Nat.sub_self]; rfl)
    go_wp2_with fail
    go_ret
    have hec := HEC.out
    rw [show palR k p x l i = ((q, (y, m)), true) from HRE.out.trans E.out] at hec ⊢
    exact ⟨by rw [← hec]; rfl, HPA.out, HPR.out, CH.out⟩
  have HTK := Hi (fun w0 (h0 : Pair w0 X y m) => take_any X y m k w0 h0)
  have HSUB := Hi (show n - i = (n - (i + 1)) + 1 by omega)
  cases hok : (y.next m k).2.2 with
  | false =>
    have E := Hi (show R = ((q, (y.next m k).1), false) by rw [← HRL.out, HSUB.out, palR, if_pos hok])
    have HTK := Hi (fun w0 (h0 : Pair w0 X y m) => (HTK.out w0 h0).mono (R' := fun e w' => e = .returned (.tuple #[.string (y.next m k).2.1, .bool false]) ∧ Pair w' X (y.next m k).1.1 (y.next m k).1.2 ∧ Chg (two X y) w0 w') fun e w' hh => by unfold NextPost at hh; rw [hok] at hh; exact hh)
    clear hok
    go_wp2_with ((go_at_call 57; (with_reducible refine (HTK.out _ HPR.out).mono ?_); rintro e w1 ⟨rfl, hp1, hc1⟩); have H1 := Hi hp1; have C2 := Hi hc1; clear hp1 hc1)
    go_ret
    have hec := HEC.out
    rw [show palR k p x l n = ((q, (y.next m k).1), false) from HRE.out.trans E.out] at hec ⊢
    have hyl : y.L = x.L := HYL.out
    refine ⟨by rw [← hec]; rfl, HPA.out.chg C2.out (fun e => ?_) (fun e => ?_) (fun e => ?_), H1.out, CH.out.trans (C2.out.mono (fun j _ e => ?_))⟩
    · rcases e with e | e
      · exact N1.out e
      · exact N2.out (e.trans hyl)
    · rw [HQB.out] at e
      rcases e with e | e
      · exact N3.out e
      · exact N4.out (e.trans hyl)
    · rw [HQG.out] at e
      rcases e with e | e
      · exact N5.out e
      · exact N6.out (e.trans hyl)
    · rcases e with e | e
      · exact Or.inr (Or.inr (Or.inl e))
      · exact Or.inr (Or.inr (Or.inr (e.trans hyl)))
  | true =>
    have E := Hi (show palR k (q.add (col3 (y.next m k).2.1)) (y.next m k).1.1 (y.next m k).1.2 (n - (i + 1)) = R by rw [← HRL.out, HSUB.out, palR, if_neg (by rw [hok]; decide)])
    have hz8 := nextz_8 y m k HPR.out.src.ok hok
    have HTK := Hi (fun w0 (h0 : Pair w0 X y m) => (HTK.out w0 h0).mono (R' := fun e w' => e = .returned (.tuple #[.string (y.next m k).2.1, .bool true]) ∧ Pair w' X (y.next m k).1.1 (y.next m k).1.2 ∧ Chg (two X y) w0 w') fun e w' hh => by unfold NextPost at hh; rw [hok] at hh; exact hh)
    have hLn := nextL_8 y m k
    obtain ⟨bs, hbs⟩ : ∃ bs, (y.next m k).2.1 = bs := ⟨_, rfl⟩
    obtain ⟨y2, hy2⟩ : ∃ y2, (y.next m k).1.1 = y2 := ⟨_, rfl⟩
    obtain ⟨m2, hm2⟩ : ∃ m2, (y.next m k).1.2 = m2 := ⟨_, rfl⟩
    rw [hbs] at HTK E hz8
    rw [hy2] at HTK E hLn
    rw [hm2] at HTK E
    have HLN := Hi hLn
    have HEN := Hi (fun w0 => pentry_any bs k w0 HK.out (by rw [hz8]; rcases HK.out with rfl | rfl <;> decide))
    have HAD := Hi (fun w0 (hA : PalAt w0 P q) => (show Calls Tryz.prog 168 #[Y (some ⟨P, 0, none⟩), .agg #[J U (aG bs 2), J U (aG bs 1), J U (aG bs 0), J U 255]] w0 (fun e w' => e = .returned (.bool true) ∧ PalAt w' P (q.add (col3 bs)) ∧ Chg (fun k => k = P ∨ k = q.b.g) w0 w') from
     padd_any P q (aG bs 2) (aG bs 1) (aG bs 0) 255 w0 hA (by have := HQN.out; omega) (fun z hz => by
      simp at hz
      rcases hz with rfl | rfl | rfl | rfl
      · exact aS bs 2
      · exact aS bs 1
      · exact aS bs 0
      · decide)))
    clear hok hz8 hbs hy2 hm2 hLn
    go_upto_region 11 with ((go_at_call 57; (with_reducible refine (HTK.out _ HPR.out).mono ?_); rintro e w1 ⟨rfl, hp1, hc1⟩); have H1 := Hi hp1; have C2 := Hi hc1; clear hp1 hc1)
    have HPA := Hi (HPA.out.chg C2.out (fun e => by
     rcases e with e | e
     · exact N1.out e
     · exact N2.out (e.trans HYL.out)) (fun e => by
     rw [HQB.out] at e
     rcases e with e | e
     · exact N3.out e
     · exact N4.out (e.trans HYL.out)) (fun e => by
     rw [HQG.out] at e
     rcases e with e | e
     · exact N5.out e
     · exact N6.out (e.trans HYL.out)))
    have CH := Hi (CH.out.trans (C2.out.mono (S' := prS P X p x) (fun j _ e => by
     rcases e with e | e
     · exact Or.inr (Or.inr (Or.inl e))
     · exact Or.inr (Or.inr (Or.inr (e.trans HYL.out))))))
    clear C2
    go_upto_region 12 with ((go_at_call 167; (with_reducible refine (HEN.out _).mono ?_); rintro e w2 ⟨rfl, hc2⟩); have HPA := Hi (HPA.out.chg hc2 (fun h => h) (fun h => h) (fun h => h)); have H1 := Hi (show Pair w2 X y2 m2 from ⟨H1.out.src.chg hc2 (fun h => h), H1.out.led.chg hc2 (fun h => h)⟩); have CH := Hi (CH.out.trans (hc2.mono (fun _ _ h => h.elim))); clear hc2)
    have hc3 := (Chg.refl (fun _ => False) w2).alloc (.cells #[J U (aG bs 2), J U (aG bs 1), J U (aG bs 0), J U 255] 104)
    have O12 := Hi (aA w2 #[J U (aG bs 2), J U (aG bs 1), J U (aG bs 0), J U 255] 104)
    have HPA := Hi (HPA.out.chg hc3 (fun h => h) (fun h => h) (fun h => h))
    have H1 := Hi (show Pair (w2.alloc (.cells #[J U (aG bs 2), J U (aG bs 1), J U (aG bs 0), J U 255] 104)) X y2 m2 from ⟨H1.out.src.chg hc3 (fun h => h), H1.out.led.chg hc3 (fun h => h)⟩)
    have CH := Hi (CH.out.trans (hc3.mono (fun _ _ h => h.elim)))
    generalize w2.heap.size = p12 at O12 ⊢
    generalize World.alloc w2 _ = w3 at HPA H1 CH O12 ⊢
    clear hc3
    go_wp2_with (first
     | (refine aL (by kernel_rfl) 104 4 _ rfl p12 [J U (aG bs 2), J U (aG bs 1), J U (aG bs 0), J U 255] rfl rfl O12.out Tryz.underlying104 rfl (by kernel_rfl) ?_; intro _)
     | ((go_at_call 168; (with_reducible refine (HAD.out _ HPA.out).mono ?_); rintro e w4 ⟨rfl, hp4, hc4⟩); have HP4 := Hi hp4; have C4 := Hi hc4; clear hp4 hc4))
    go_roundw
    case rel =>
     have hyl : y2.L = x.L := HLN.out.trans HYL.out
     have n1 := N1.out
     have n2 := N2.out
     have n5 := N5.out
     have n6 := N6.out
     have hqg := HQG.out
     refine ⟨i + 1, q.add (col3 bs), y2, m2, by omega, by go_num, E.out, HP4.out, ⟨H1.out.src.chg C4.out (fun e => ?_), H1.out.led.chg C4.out (fun e => ?_)⟩, HQB.out, HQG.out, by show q.n + 1 + (n - (i + 1)) ≤ q.most; have := HQN.out; omega, hyl, CH.out.trans (C4.out.mono (fun j _ e => ?_))⟩
     · rcases e with e | e
       · exact n1 e.symm
       · rw [hqg] at e; exact n5 e.symm
     · rw [hyl] at e
       rcases e with e | e
       · exact n2 e.symm
       · rw [hqg] at e; exact n6 e.symm
     · rcases e with e | e
       · exact Or.inl e
       · exact Or.inr (Or.inl (e.trans hqg))
    case measure => simp [intOf]; omega
def aN (k a : Int) : List Value := [J I 0, J I 0, J I 0, .bool false, J I 0, J I 0, J I 0, J I 0, J I 0, J I 0, J I 0, J I 0, J I 0, J I k, J I a]
theorem rbad20_any (k a : Int) (w : World) : Calls Tryz.prog 48 #[J I k, J I a] w (RA w (aN k a)) := by
 go_enter Tryz.func48, Tryz.ntmps48
 go_wp2
 refine bodyPost_ret (v := .agg (List.toArray (aN k a))) ?_ rfl ⟨rfl, (Below.refl _ _).alloc (Nat.le_refl _) _⟩
 exact aD Tryz.results48 _ _ _ (aN k a) _ rfl (Obj1.range0 (cs := (aN k a)) (aA w _ _)) Tryz.underlying46 rfl (by kernel_rfl)
def sideK (v : Int) : Int := if v ≤ 0 then 2 else if v > 16384 then 3 else 0
theorem rside_any (v : Int) (w : World) : Calls Tryz.prog 52 #[J I v] w fun e w' => e = .returned (J I (sideK v)) ∧ w' = w := by
 by_cases h1 : v ≤ 0
 · have E := Hi (show sideK v = 2 by unfold sideK; rw [if_pos h1])
   go_enter Tryz.func52, Tryz.ntmps52
   go_wp2
   go_ret
   exact ⟨ret_i E.out.symm, rfl⟩
 by_cases h2 : v > 16384
 · have E := Hi (show sideK v = 3 by unfold sideK; rw [if_neg h1, if_pos h2])
   go_enter Tryz.func52, Tryz.ntmps52
   go_wp2
   go_ret
   exact ⟨ret_i E.out.symm, rfl⟩
 have E := Hi (show sideK v = 0 by unfold sideK; rw [if_neg h1, if_neg h2])
 go_enter Tryz.func52, Tryz.ntmps52
 go_wp2
 go_ret
 exact ⟨ret_i E.out.symm, rfl⟩
def rOk (a : Hd) (r g b m fr en : Int) : List Value := [J I a.sz, J I a.w, J I a.h, .bool a.top, J I a.dp, J I a.mt, J I a.co, J I r, J I g, J I b, J I m, J I fr, J I en, J I 0, J I 0]
def rShort (b : ByteArray) (p : Int) : List Value := if (aO (smallF b)).2 = true then aN (aO (smallF b)).1.2.1 (p + (aO (smallF b)).1.2.2) else rOk (smallH b) 0 0 0 0 p (p + 12)
theorem le_loww (s : ByteArray) (a b k : Nat) (V : Int) (w : World) (hk : b = a + k) (h4 : k ≤ 4) (hb : b ≤ s.size) (hV : aC s a k = V) : Calls Tryz.prog 49 #[.string (s.extract a b)] w fun e w' => e = .returned (J I V) ∧ w' = w := by
 have hz : (s.extract a b).size = k := by rw [ByteArray.size_extract]; omega
 refine (rle_any (s.extract a b) w (by omega)).mono ?_
 rintro e w' ⟨h1, h2⟩
 exact ⟨by rw [h1, hz, lowK_lo s a b k (by omega) hb, hV], h2.symm⟩
theorem rshort_any (s : ByteArray) (p : Nat) (w : World) (h : s.size = 12) (hp : p ≤ 100000) : Calls Tryz.prog 50 #[.string s, J I p] w (RA w (rShort s p)) := by
 have HBD := Hi (fun k a w0 => rbad20_any k a w0)
 obtain ⟨R, hR⟩ : ∃ R, rShort s p = R := ⟨_, rfl⟩
 have E0 := hR
 unfold rShort smallF sidesF smallH at E0
 rw [hR]
 clear hR
 obtain ⟨W, hW⟩ : ∃ W, aC s 4 2 = W := ⟨_, rfl⟩
 obtain ⟨H, hH⟩ : ∃ H, aC s 6 2 = H := ⟨_, rfl⟩
 obtain ⟨P, hP⟩ : ∃ P, aC s 8 2 = P := ⟨_, rfl⟩
 obtain ⟨dp, hdp⟩ : ∃ dp, aC s 10 2 = dp := ⟨_, rfl⟩
 have bdp := ah s 10 2
 have bH := ah s 6 2
 have HW := Hi (fun w0 => le_loww s 4 6 2 W w0 rfl (by omega) (by omega) hW)
 have HH := Hi (fun w0 => le_loww s 6 8 2 H w0 rfl (by omega) (by omega) hH)
 have HP := Hi (fun w0 => le_loww s 8 10 2 P w0 rfl (by omega) (by omega) hP)
 have HDP := Hi (fun w0 => le_loww s 10 12 2 dp w0 rfl (by omega) (by omega) hdp)
 have HD := Hi (fun w0 => rdepth_any dp w0)
 have HSW := Hi (fun w0 => rside_any W w0)
 have HSH := Hi (fun w0 => rside_any H w0)
 rw [hdp] at bdp
 rw [hH] at bH
 have dp0 := bdp.1
 rw [hW, hH, hP, hdp] at E0
 obtain ⟨b1, hb1⟩ : ∃ x, decide (W ≤ 0) = x := ⟨_, rfl⟩
 obtain ⟨b2, hb2⟩ : ∃ x, decide (W > 16384) = x := ⟨_, rfl⟩
 obtain ⟨b3, hb3⟩ : ∃ x, (H == 0) = x := ⟨_, rfl⟩
 obtain ⟨b4, hb4⟩ : ∃ x, (decide (H > 16384) || decide (H < -16384)) = x := ⟨_, rfl⟩
 obtain ⟨b5, hb5⟩ : ∃ x, (P != 1) = x := ⟨_, rfl⟩
 obtain ⟨b6, hb6⟩ : ∃ x, dpB dp false = x := ⟨_, rfl⟩
 obtain ⟨dt, hdt⟩ : ∃ x, dpB dp true = x := ⟨_, rfl⟩
 obtain ⟨d16, hd16⟩ : ∃ x, (dp == 16) = x := ⟨_, rfl⟩
 obtain ⟨d32, hd32⟩ : ∃ x, (dp == 32) = x := ⟨_, rfl⟩
 have hbx : b6 = (dt && (!d16 && !d32)) := by
  rw [← hb6, ← hdt, ← hd16, ← hd32]; unfold dpB
  by_cases e1 : dp = 16
  · subst e1; rfl
  by_cases e2 : dp = 32
  · subst e2; rfl
  rw [eqf e1, eqf e2]; simp
 rw [hb1, hb2, hb3, hb4, hb5, hb6] at E0
 rw [hdt] at HD
 obtain ⟨kW, hkW⟩ : ∃ k, sideK W = k := ⟨_, rfl⟩
 obtain ⟨kH, hkH⟩ : ∃ k, sideK H = k := ⟨_, rfl⟩
 have ekW : kW = (if b1 = true then 2 else if b2 = true then 3 else 0) := by rw [← hkW, ← hb1, ← hb2]; unfold sideK; simp
 have ekH : kH = (if b3 = true then 2 else if b4 = true then 3 else 0) := by
  rw [← hkH, ← hb3, ← hb4]; unfold sideK
  by_cases e1 : H = 0
  · subst e1; rfl
  · rw [eqf e1, if_neg (by omega)]
    by_cases e2 : H > 16384
    · rw [if_pos e2]; simp [e2]
    · rw [if_neg e2]; simp [e2]; omega
 rw [hkW] at HSW
 rw [hkH] at HSH
 have EKW := Hi ekW
 have EKH := Hi ekH
 have HBX := Hi hbx
 have HE := Hi E0
 clear hW hH hP hdp hb1 hb2 hb3 hb4 hb6 hdt bdp bH ekW ekH hbx E0 hkW hkH
 have O4 := Hi (aA w #[J I 0, J I 0, J I 0, .bool false, J I 0, J I 0, J I 0, J I 0, J I 0, J I 0, J I 0, J I 0, J I 0, J I 0, J I 0] 46)
 have BL := Hi ((Below.refl w.heap.size w).alloc (Nat.le_refl _) (.cells #[J I 0, J I 0, J I 0, .bool false, J I 0, J I 0, J I 0, J I 0, J I 0, J I 0, J I 0, J I 0, J I 0, J I 0, J I 0] 46))
 have q1 : (p : Int) + 12 ≤ 100012 := by omega
 go_enter Tryz.func50, Tryz.ntmps50
 go_upto_region 1 with (fail)
 generalize World.alloc _ _ = w1 at O4 BL ⊢
 refine wp_region_noPanic ?_
 refine wp_region_held_drew (S := fun w' => True) (by kernel_rfl) trivial (fun hHeld => ?_)
 refine zt 0 (.string s) rfl hHeld ?_
 refine zt 1 (.string (s.extract 4 6)) rfl hHeld ?_
 refine zt 3 (.string s) rfl hHeld ?_
 refine zt 4 (.string (s.extract 6 8)) rfl hHeld ?_
 refine zt 6 (.string s) rfl hHeld ?_
 refine zt 7 (.string (s.extract 10 12)) rfl hHeld ?_
 refine zt 9 (J I p) rfl hHeld ?_
 refine zt 10 (J I p) rfl hHeld ?_
 refine zt 11 (J I ((p : Int) + 12)) rfl hHeld ?_ (hy := fun wx _ => by (go_simp) <;> exact aF _ (by omega) (by omega))
 refine aR (i := 2) (v := J I W) rfl (by kernel_rfl) (by kernel_rfl) (by kernel_rfl) (fun _ _ _ h => h) (Or.inr ⟨by rfl, fun wx _ => ⟨49, #[.string (s.extract 4 6)], by kernel_rfl, HW.out wx⟩⟩) hHeld ?_
 simp only [Act.put, zq1, zq2, zq3, zq4, zq5, zq6]
 refine aR (i := 5) (v := J I H) rfl (by kernel_rfl) (by kernel_rfl) (by kernel_rfl) (fun _ _ _ h => h) (Or.inr ⟨by rfl, fun wx _ => ⟨49, #[.string (s.extract 6 8)], by kernel_rfl, HH.out wx⟩⟩) hHeld ?_
 simp only [Act.put, zq1, zq2, zq3, zq4, zq5, zq6]
 refine aR (i := 8) (v := J I dp) rfl (by kernel_rfl) (by kernel_rfl) (by kernel_rfl) (fun _ _ _ h => h) (Or.inr ⟨by rfl, fun wx _ => ⟨49, #[.string (s.extract 10 12)], by kernel_rfl, HDP.out wx⟩⟩) hHeld ?_
 simp only [Act.put, zq1, zq2, zq3, zq4, zq5, zq6]
 refine zt 12 (.agg (List.toArray [J I 12, J I W, J I H, .bool false, J I dp, J I 0, J I 0, J I 0, J I 0, J I 0, J I 0, J I (p : Int), J I ((p : Int) + 12), J I 0, J I 0])) rfl hHeld ?_
 have O4 := Hi (O4.out.drew)
 have BL := Hi BL.out.drew
 generalize World.drew _ = wk at O4 BL ⊢
 refine wpAnyH_ready (rs := [13]) (by kernel_rfl) (by simp) ?_
 refine AllReadyH.cons (o := _) rfl (fun K' hK => ?_) AllReadyH.nil
 go_simp
 have O5 := Hi (aA wk #[J I 0, J I 0, J I 0, .bool false, J I 0, J I 0, J I 0, J I 0, J I 0, J I 0, J I 0, J I 0, J I 0, J I 0, J I 0] 46)
 have l4k := O4.out.lt
 have O4 := Hi (O4.out.alloc (.cells #[J I 0, J I 0, J I 0, .bool false, J I 0, J I 0, J I 0, J I 0, J I 0, J I 0, J I 0, J I 0, J I 0, J I 0, J I 0] 46))
 have BL := Hi (BL.out.alloc BL.out.size (.cells #[J I 0, J I 0, J I 0, .bool false, J I 0, J I 0, J I 0, J I 0, J I 0, J I 0, J I 0, J I 0, J I 0, J I 0, J I 0] 46))
 obtain ⟨d, hd⟩ : ∃ d, wk.heap.size = d := ⟨_, rfl⟩
 rw [hd] at O5 l4k ⊢
 clear hd
 generalize World.alloc wk _ = wk2 at O4 O5 BL ⊢
 refine hK _ _ trivial (fun hA1 => ?_)
 clear hK K'
 try simp only [Act.put, zq1, zq2, zq3, zq4, zq5, zq6]
 obtain ⟨wk, rfl⟩ : ∃ z, z = wk2 := ⟨_, rfl⟩
 refine wpAnyH_ready (rs := [14]) (by kernel_rfl) (by simp) ?_
 refine AllReadyH.cons (o := _) rfl (fun K' hK => ?_) AllReadyH.nil
 rw [if_pos (by rfl)]
 refine wp_store_mid 46 _ _ rfl (d) 0 (List.toArray [J I 12, J I W, J I H, .bool false, J I dp, J I 0, J I 0, J I 0, J I 0, J I 0, J I 0, J I (p : Int), J I ((p : Int) + 12), J I 0, J I 0]) rfl rfl (O5.out.there 0 15 (by simp)) (by kernel_rfl) (all_oneCell_toArray (List.all_eq_true.1 (by rfl))) ?_
 simp only [Act.put, zq1, zq2, zq3, zq4, zq5, zq6]
 have hst : Stored wk (d) 0 [J I 12, J I W, J I H, .bool false, J I dp, J I 0, J I 0, J I 0, J I 0, J I 0, J I 0, J I (p : Int), J I ((p : Int) + 12), J I 0, J I 0] (wk.setCells (d) 0 [J I 12, J I W, J I H, .bool false, J I dp, J I 0, J I 0, J I 0, J I 0, J I 0, J I 0, J I (p : Int), J I ((p : Int) + 12), J I 0, J I 0]) := rfl
 have O5 := Hi (hst.whole O5.out (by first | rfl | simp))
 have O4 := Hi (hst.oth O4.out (by omega))
 have BL := Hi (hst.below BL.out (by omega))
 generalize World.setCells _ _ _ _ = wk2 at O4 O5 BL ⊢
 clear hst
 refine hK _ _ trivial (fun hH1 => ?_)
 clear hK K'
 obtain ⟨wk, rfl⟩ : ∃ z, z = wk2 := ⟨_, rfl⟩
 refine wpAnyH_done (by kernel_rfl) ?_ _
 refine NoPanic.normal ?_
 have c1 : wk.cell? ⟨d, 1, none⟩ = some (J I W) := (O5.out.cell 1).trans rfl
 have c2 : wk.cell? ⟨d, 2, none⟩ = some (J I H) := (O5.out.cell 2).trans rfl
 have c4 : wk.cell? ⟨d, 4, none⟩ = some (J I dp) := (O5.out.cell 4).trans rfl
 have c6 : wk.cell? ⟨d, 6, none⟩ = some (J I 0) := (O5.out.cell 6).trans rfl
 have f6 : wk.frozen? ⟨d, 6, none⟩ = false := O5.out.frozen 6
 have hd4 : w.heap.size ≠ d := by omega
 obtain ⟨nW, hnW⟩ : ∃ b, (kW != 0) = b := ⟨_, rfl⟩
 obtain ⟨nH, hnH⟩ : ∃ b, (kH != 0) = b := ⟨_, rfl⟩
 have HNW := Hi hnW
 have HNH := Hi hnH
 cases nW
 rotate_left
 · have E := Hi (show R = aN kW ((p : Int) + 4) by
    have e := EKW.out; have h1 := HNW.out; rw [← HE.out]
    cases b1
    · cases b2
      · rw [e] at h1; exact absurd h1 (by decide)
      · rw [e]; rfl
    · rw [e]; rfl)
   clear HE
   go_wp2_with (first
    | ((go_at_call 52; (with_reducible refine (HSW.out _).mono ?_); rintro e wl ⟨rfl, hq⟩); have hq := hq.symm; subst hq)
    | ((go_at_call 48; (with_reducible refine (HBD.out _ _ _).mono ?_); rintro e wc ⟨rfl, hb⟩); have O4 := Hi (O4.out.below hb O4.out.lt); have O5 := Hi (O5.out.below hb O5.out.lt); have BL := Hi (am hb BL.out BL.out.size); clear hb)
    | (refine so 46 15 w.heap.size [J I 0, J I 0, J I 0, .bool false, J I 0, J I 0, J I 0, J I 0, J I 0, J I 0, J I 0, J I 0, J I 0, J I kW, J I ((p : Int) + 4)] O4.out ?_; intro ws hst hO; have O4 := Hi hO; have O5 := Hi (hst.oth O5.out (by omega)); have BL := Hi (hst.below BL.out (by omega)); clear hst hO; refine aP 4 (Y (some ⟨w.heap.size, 0, none⟩)) (by kernel_rfl) (by kernel_rfl) ?_; intro A hA hAd))
   refine bodyPost_ret (v := .agg (List.toArray [J I 0, J I 0, J I 0, .bool false, J I 0, J I 0, J I 0, J I 0, J I 0, J I 0, J I 0, J I 0, J I 0, J I kW, J I ((p : Int) + 4)])) ?_ hAd ⟨by rw [E.out] <;> rfl, BL.out⟩
   exact aD Tryz.results50 _ _ _ [J I 0, J I 0, J I 0, .bool false, J I 0, J I 0, J I 0, J I 0, J I 0, J I 0, J I 0, J I 0, J I 0, J I kW, J I ((p : Int) + 4)] _ hA O4.out.range0 Tryz.underlying46 rfl (by kernel_rfl)
 obtain ⟨rfl, rfl⟩ : b1 = false ∧ b2 = false := by have e := EKW.out; have h1 := HNW.out; rw [e] at h1; cases b1 <;> cases b2 <;> simp_all
 go_upto_region 4 with ((go_at_call 52; (with_reducible refine (HSW.out _).mono ?_); rintro e wl ⟨rfl, hq⟩); have hq := hq.symm; subst hq)
 cases nH
 rotate_left
 · have E := Hi (show R = aN kH ((p : Int) + 6) by
    have e := EKH.out; have h1 := HNH.out; rw [← HE.out]
    cases b3
    · cases b4
      · rw [e] at h1; exact absurd h1 (by decide)
      · rw [e]; rfl
    · rw [e]; rfl)
   clear HE
   go_wp2_with (first
    | ((go_at_call 52; (with_reducible refine (HSH.out _).mono ?_); rintro e wl ⟨rfl, hq⟩); have hq := hq.symm; subst hq)
    | ((go_at_call 48; (with_reducible refine (HBD.out _ _ _).mono ?_); rintro e wc ⟨rfl, hb⟩); have O4 := Hi (O4.out.below hb O4.out.lt); have O5 := Hi (O5.out.below hb O5.out.lt); have BL := Hi (am hb BL.out BL.out.size); clear hb)
    | (refine so 46 15 w.heap.size [J I 0, J I 0, J I 0, .bool false, J I 0, J I 0, J I 0, J I 0, J I 0, J I 0, J I 0, J I 0, J I 0, J I kH, J I ((p : Int) + 6)] O4.out ?_; intro ws hst hO; have O4 := Hi hO; have O5 := Hi (hst.oth O5.out (by omega)); have BL := Hi (hst.below BL.out (by omega)); clear hst hO; refine aP 4 (Y (some ⟨w.heap.size, 0, none⟩)) (by kernel_rfl) (by kernel_rfl) ?_; intro A hA hAd))
   refine bodyPost_ret (v := .agg (List.toArray [J I 0, J I 0, J I 0, .bool false, J I 0, J I 0, J I 0, J I 0, J I 0, J I 0, J I 0, J I 0, J I 0, J I kH, J I ((p : Int) + 6)])) ?_ hAd ⟨by rw [E.out] <;> rfl, BL.out⟩
   exact aD Tryz.results50 _ _ _ [J I 0, J I 0, J I 0, .bool false, J I 0, J I 0, J I 0, J I 0, J I 0, J I 0, J I 0, J I 0, J I 0, J I kH, J I ((p : Int) + 6)] _ hA O4.out.range0 Tryz.underlying46 rfl (by kernel_rfl)
 obtain ⟨rfl, rfl⟩ : b3 = false ∧ b4 = false := by have e := EKH.out; have h1 := HNH.out; rw [e] at h1; cases b3 <;> cases b4 <;> simp_all
 go_upto_region 6 with ((go_at_call 52; (with_reducible refine (HSH.out _).mono ?_); rintro e wl ⟨rfl, hq⟩); have hq := hq.symm; subst hq)
 cases b5
 rotate_left
 · have E := Hi (show R = aN 2 ((p : Int) + 8) from HE.out.symm)
   clear HE
   go_wp2_with (first
    | ((go_at_call 49; (with_reducible refine (HP.out _).mono ?_); rintro e wl ⟨rfl, hq⟩); have hq := hq.symm; subst hq)
    | ((go_at_call 48; (with_reducible refine (HBD.out _ _ _).mono ?_); rintro e wc ⟨rfl, hb⟩); have O4 := Hi (O4.out.below hb O4.out.lt); have O5 := Hi (O5.out.below hb O5.out.lt); have BL := Hi (am hb BL.out BL.out.size); clear hb)
    | (refine so 46 15 w.heap.size [J I 0, J I 0, J I 0, .bool false, J I 0, J I 0, J I 0, J I 0, J I 0, J I 0, J I 0, J I 0, J I 0, J I 2, J I ((p : Int) + 8)] O4.out ?_; intro ws hst hO; have O4 := Hi hO; have O5 := Hi (hst.oth O5.out (by omega)); have BL := Hi (hst.below BL.out (by omega)); clear hst hO; refine aP 4 (Y (some ⟨w.heap.size, 0, none⟩)) (by kernel_rfl) (by kernel_rfl) ?_; intro A hA hAd))
   refine bodyPost_ret (v := .agg (List.toArray [J I 0, J I 0, J I 0, .bool false, J I 0, J I 0, J I 0, J I 0, J I 0, J I 0, J I 0, J I 0, J I 0, J I 2, J I ((p : Int) + 8)])) ?_ hAd ⟨by rw [E.out] <;> rfl, BL.out⟩
   exact aD Tryz.results50 _ _ _ [J I 0, J I 0, J I 0, .bool false, J I 0, J I 0, J I 0, J I 0, J I 0, J I 0, J I 0, J I 0, J I 0, J I 2, J I ((p : Int) + 8)] _ hA O4.out.range0 Tryz.underlying46 rfl (by kernel_rfl)
 go_upto_region 8 with ((go_at_call 49; (with_reducible refine (HP.out _).mono ?_); rintro e wl ⟨rfl, hq⟩); have hq := hq.symm; subst hq)
 obtain ⟨nb, hnb⟩ : ∃ x, (!b6) = x := ⟨_, rfl⟩
 have HNB := Hi hnb
 clear hnb
 go_cut [59] from 46 to 59 (fun c wx => c = .bool nb ∧ wx = wk)
 case first =>
  cases dt
  · go_wp2_with (first | ((with_reducible refine aE rfl ?_ ?_); rfl; intro _) | ((go_at_call 53; (with_reducible refine (HD.out _).mono ?_); rintro e wl ⟨rfl, hq⟩); have hq := hq.symm; subst hq))
    go_meet
    exact ⟨by rw [← HNB.out, HBX.out]; rfl, rfl⟩
  · cases d16 <;> cases d32
    all_goals
     go_wp2_with (first | ((with_reducible refine aE rfl ?_ ?_); rfl; intro _) | ((go_at_call 53; (with_reducible refine (HD.out _).mono ?_); rintro e wl ⟨rfl, hq⟩); have hq := hq.symm; subst hq))
     go_meet
     exact ⟨by rw [← HNB.out, HBX.out]; rfl, rfl⟩
 case rest =>
  obtain ⟨rfl, rfl⟩ := hcut
  cases nb
  rotate_left
  · obtain rfl : b6 = false := by have h1 := HNB.out; cases b6 <;> simp_all
    clear HBX HNB
    have E := Hi (show R = aN 3 ((p : Int) + 10) from HE.out.symm)
    clear HE
    go_upto_region 9 with (fail)
    go_wp2_with (first
     | ((go_at_call 48; (with_reducible refine (HBD.out _ _ _).mono ?_); rintro e wc ⟨rfl, hb⟩); have O4 := Hi (O4.out.below hb O4.out.lt); have O5 := Hi (O5.out.below hb O5.out.lt); have BL := Hi (am hb BL.out BL.out.size); clear hb)
     | (refine so 46 15 w.heap.size [J I 0, J I 0, J I 0, .bool false, J I 0, J I 0, J I 0, J I 0, J I 0, J I 0, J I 0, J I 0, J I 0, J I 3, J I ((p : Int) + 10)] O4.out ?_; intro ws hst hO; have O4 := Hi hO; have O5 := Hi (hst.oth O5.out (by omega)); have BL := Hi (hst.below BL.out (by omega)); clear hst hO; refine aP 4 (Y (some ⟨w.heap.size, 0, none⟩)) (by kernel_rfl) (by kernel_rfl) ?_; intro A hA hAd))
    refine bodyPost_ret (v := .agg (List.toArray [J I 0, J I 0, J I 0, .bool false, J I 0, J I 0, J I 0, J I 0, J I 0, J I 0, J I 0, J I 0, J I 0, J I 3, J I ((p : Int) + 10)])) ?_ hAd ⟨by rw [E.out] <;> rfl, BL.out⟩
    exact aD Tryz.results50 _ _ _ [J I 0, J I 0, J I 0, .bool false, J I 0, J I 0, J I 0, J I 0, J I 0, J I 0, J I 0, J I 0, J I 0, J I 3, J I ((p : Int) + 10)] _ hA O4.out.range0 Tryz.underlying46 rfl (by kernel_rfl)
  · obtain rfl : b6 = true := by have h1 := HNB.out; cases b6 <;> simp_all
    clear HBX HNB
    go_upto_region 10 with (fail)
    by_cases h8 : dp ≤ 8
    · have D8 : decide (dp ≤ 8) = true := decide_eq_true h8
      have E := Hi (show R = [J I 12, J I W, J I H, .bool false, J I dp, J I 0, J I (2 ^ dp.toNat), J I 0, J I 0, J I 0, J I 0, J I (p : Int), J I ((p : Int) + 12), J I 0, J I 0] by rw [← HE.out]; show rOk ⟨12, W, H, false, dp, 0, (if dp ≤ 8 then 2 ^ dp.toNat else 0), z8, 0⟩ 0 0 0 0 _ _ = _; rw [if_pos h8]; rfl)
      have HPW := Hi (fun w0 => power_any dp w0 dp0 (by omega))
      clear HE
      go_upto_region 12 with ((go_at_call 54; (with_reducible refine (HPW.out _).mono ?_); rintro e wl ⟨rfl, hq⟩); subst hq)
      have O5 := Hi ((O5.out.set 6 (J I (2 ^ dp.toNat))).cells (show _ = (List.toArray [J I 12, J I W, J I H, .bool false, J I dp, J I 0, J I (2 ^ dp.toNat), J I 0, J I 0, J I 0, J I 0, J I (p : Int), J I ((p : Int) + 12), J I 0, J I 0]) from rfl))
      have O4 := Hi (O4.out.set_other ⟨d, 6, none⟩ (J I (2 ^ dp.toNat)) (by simpa using hd4))
      have BL := Hi (BL.out.setCell (p := ⟨d, 6, none⟩) (by simp; omega) (J I (2 ^ dp.toNat)))
      clear c1 c2 c4 c6 f6
      generalize World.setCell _ _ _ = wv at O4 O5 BL ⊢
      go_wp2_with (first
       | (refine aL (by kernel_rfl) 46 15 _ rfl d [J I 12, J I W, J I H, .bool false, J I dp, J I 0, J I (2 ^ dp.toNat), J I 0, J I 0, J I 0, J I 0, J I (p : Int), J I ((p : Int) + 12), J I 0, J I 0] rfl rfl O5.out Tryz.underlying46 rfl (by kernel_rfl) ?_; intro _)
       | (refine so 46 15 w.heap.size [J I 12, J I W, J I H, .bool false, J I dp, J I 0, J I (2 ^ dp.toNat), J I 0, J I 0, J I 0, J I 0, J I (p : Int), J I ((p : Int) + 12), J I 0, J I 0] O4.out ?_; intro ws hst hO; have O4 := Hi hO; have O5 := Hi (hst.oth O5.out (by omega)); have BL := Hi (hst.below BL.out (by omega)); clear hst hO; refine aP 4 (Y (some ⟨w.heap.size, 0, none⟩)) (by kernel_rfl) (by kernel_rfl) ?_; intro A hA hAd))
      refine bodyPost_ret (v := .agg (List.toArray [J I 12, J I W, J I H, .bool false, J I dp, J I 0, J I (2 ^ dp.toNat), J I 0, J I 0, J I 0, J I 0, J I (p : Int), J I ((p : Int) + 12), J I 0, J I 0])) ?_ hAd ⟨by rw [E.out] <;> rfl, BL.out⟩
      exact aD Tryz.results50 _ _ _ [J I 12, J I W, J I H, .bool false, J I dp, J I 0, J I (2 ^ dp.toNat), J I 0, J I 0, J I 0, J I 0, J I (p : Int), J I ((p : Int) + 12), J I 0, J I 0] _ hA O4.out.range0 Tryz.underlying46 rfl (by kernel_rfl)
    · have D8 : decide (dp ≤ 8) = false := decide_eq_false h8
      have E := Hi (show R = [J I 12, J I W, J I H, .bool false, J I dp, J I 0, J I 0, J I 0, J I 0, J I 0, J I 0, J I (p : Int), J I ((p : Int) + 12), J I 0, J I 0] by rw [← HE.out]; show rOk ⟨12, W, H, false, dp, 0, (if dp ≤ 8 then 2 ^ dp.toNat else 0), z8, 0⟩ 0 0 0 0 _ _ = _; rw [if_neg h8]; rfl)
      clear HE
      go_wp2_with (first
       | (refine aL (by kernel_rfl) 46 15 _ rfl d [J I 12, J I W, J I H, .bool false, J I dp, J I 0, J I 0, J I 0, J I 0, J I 0, J I 0, J I (p : Int), J I ((p : Int) + 12), J I 0, J I 0] rfl rfl O5.out Tryz.underlying46 rfl (by kernel_rfl) ?_; intro _)
       | (refine so 46 15 w.heap.size [J I 12, J I W, J I H, .bool false, J I dp, J I 0, J I 0, J I 0, J I 0, J I 0, J I 0, J I (p : Int), J I ((p : Int) + 12), J I 0, J I 0] O4.out ?_; intro ws hst hO; have O4 := Hi hO; have O5 := Hi (hst.oth O5.out (by omega)); have BL := Hi (hst.below BL.out (by omega)); clear hst hO; refine aP 4 (Y (some ⟨w.heap.size, 0, none⟩)) (by kernel_rfl) (by kernel_rfl) ?_; intro A hA hAd))
      refine bodyPost_ret (v := .agg (List.toArray [J I 12, J I W, J I H, .bool false, J I dp, J I 0, J I 0, J I 0, J I 0, J I 0, J I 0, J I (p : Int), J I ((p : Int) + 12), J I 0, J I 0])) ?_ hAd ⟨by rw [E.out] <;> rfl, BL.out⟩
      exact aD Tryz.results50 _ _ _ [J I 12, J I W, J I H, .bool false, J I dp, J I 0, J I 0, J I 0, J I 0, J I 0, J I 0, J I (p : Int), J I ((p : Int) + 12), J I 0, J I 0] _ hA O4.out.range0 Tryz.underlying46 rfl (by kernel_rfl)
end Go.Proofs.YtfchnibjjokmbaaGreat

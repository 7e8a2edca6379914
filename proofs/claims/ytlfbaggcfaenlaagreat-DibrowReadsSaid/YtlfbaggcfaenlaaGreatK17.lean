/- A palette's Read, Free; walked. -/
import Derived.Test.YtlfbaggcfaenlaaGreatK16
import Derived.Test.YtlfbaggcfaenlaaGreatK1
import Derived.Test.YtlfbaggcfaenlaaGreatK0
namespace Go.Proofs.YtlfbaggcfaenlaaGreat
open Go.RowKit
set_option linter.unusedVariables false
set_option linter.unusedSimpArgs false
def col3 (s : ByteArray) : List Int := [byN s 2, byN s 1, byN s 0, 255]
def palR (sz : Int) : Pal → Sr → Led → Nat → (Pal × (Sr × Led)) × Bool
  | p, x, l, 0 => ((p, (x, l)), true)
  | p, x, l, n + 1 => if (x.next l sz).2.2 = false then ((p, (x.next l sz).1), false) else palR sz (p.add (col3 (x.next l sz).2.1)) (x.next l sz).1.1 (x.next l sz).1.2 n
theorem nextL_8 (x : Sr) (l : Led) (n : Int) : (x.next l n).1.1.L = x.L := by unfold Sr.next; split <;> rfl
theorem nextz_8 (x : Sr) (l : Led) (n : Int) (hx : x.ok) (h : (x.next l n).2.2 = true) : ((x.next l n).2.1.size : Int) = n := by
  unfold Sr.next at h ⊢
  by_cases hc : (l.work 1).2 = true ∧ 0 ≤ n ∧ n ≤ (x.e : Int) - x.p
  · rw [if_pos hc]
    have h1 := hx.es
    have h2 := hx.pe
    show ((x.s.extract x.p (x.p + n.toNat)).size : Int) = n
    rw [ByteArray.size_extract]
    omega
  · rw [if_neg hc] at h; cases h
def prS (P X : Nat) (p : Pal) (x : Sr) (k : Nat) : Prop := k = P ∨ k = p.b.g ∨ k = X ∨ k = x.L
set_option maxRecDepth 100000 in
set_option maxHeartbeats 8000000 in
theorem pread_any (P X : Nat) (p : Pal) (x : Sr) (l : Led) (n : Nat) (k : Int) (w : World) (hk : k = 3 ∨ k = 4) (h : PalAt w P p) (hx : Pair w X x l) (hn : p.n + n ≤ p.most)
    (n1 : P ≠ X) (n2 : P ≠ x.L) (n3 : p.B ≠ X) (n4 : p.B ≠ x.L) (n5 : p.b.g ≠ X) (n6 : p.b.g ≠ x.L) :
    Calls Tryz.prog 74 #[.pointer (some ⟨P, 0, none⟩), .pointer (some ⟨X, 0, none⟩), .int .i64 n, .int .i64 k] w fun e w' =>
      e = .returned (.int .i64 (if (palR k p x l n).2 = true then 0 else 5)) ∧ PalAt w' P (palR k p x l n).1.1 ∧ Pair w' X (palR k p x l n).1.2.1 (palR k p x l n).1.2.2 ∧ Chg (prS P X p x) w w' := by
  obtain ⟨ec, hec⟩ : ∃ ec : Int, (if (palR k p x l n).2 = true then (0 : Int) else 5) = ec := ⟨_, rfl⟩
  rw [hec]
  have HEC := Hi hec
  clear hec
  have hz : sizeK k = k := by rcases hk with rfl | rfl <;> rfl
  have HSZ := Hi (fun w0 => (psize_any k w0 (by omega)).mono (R' := fun e w' => e = .returned (.int .i64 k) ∧ Chg (fun _ => False) w0 w') fun e w' hh => by rw [hz] at hh; exact hh)
  have hk0 : (k == 0) = false := by rcases hk with rfl | rfl <;> rfl
  have HP := Hi h
  have HX := Hi hx
  have HK := Hi hk
  have hmo := h.mo
  have N1 := Hi n1
  have N2 := Hi n2
  have N3 := Hi n3
  have N4 := Hi n4
  have N5 := Hi n5
  have N6 := Hi n6
  have HNM := Hi hn
  obtain ⟨most, hm⟩ : ∃ m, p.most = m := ⟨_, rfl⟩
  obtain ⟨pn, hpn⟩ : ∃ m, p.n = m := ⟨_, rfl⟩
  have HCM := Hi (fun w' (hC : Chg (fun _ => False) w w') => (show w'.cell? ⟨P, 2, none⟩ = some (.int .i64 most) from by rw [← hm]; exact ((h.chg hC (fun h => h) (fun h => h) (fun h => h)).obj.cell 2).trans rfl))
  have HCN := Hi (fun w' (hC : Chg (fun _ => False) w w') => (show w'.cell? ⟨P, 1, none⟩ = some (.int .i64 pn) from by rw [← hpn]; exact ((h.chg hC (fun h => h) (fun h => h) (fun h => h)).obj.cell 1).trans rfl))
  rw [hm, hpn] at hn
  rw [hm] at hmo
  clear hz hk h hx hm hpn n1 n2 n3 n4 n5 n6
  go_enter Tryz.func74, Tryz.ntmps74
  go_wp2_with (first
    | ((with_reducible refine skip_g rfl ?_ ?_); rfl; intro _)
    | ((go_at_call 144; (with_reducible refine (HSZ.out _).mono ?_); rintro e w1 ⟨rfl, hC⟩); have C1 := Hi hC; have k2 := HCM.out _ hC; have k1 := HCN.out _ hC; clear hC))
  go_quiet (fail)
  go_wp2_with fail
  have CD := Hi (C1.out.drewN nq)
  generalize World.drewN _ _ = wd at CD ⊢
  clear k1 k2
  obtain ⟨R, hR⟩ : ∃ R, palR k p x l n = R := ⟨_, rfl⟩
  have HRE := Hi hR
  go_loopw [40] (fun c wr => ∃ (i : Nat) (q : Pal) (y : Sr) (m : Led), i ≤ n ∧ c = .int .i64 i ∧ palR k q y m (n - i) = R ∧ PalAt wr P q ∧ Pair wr X y m ∧ q.B = p.B ∧ q.b.g = p.b.g ∧ q.n + (n - i) ≤ q.most ∧ y.L = x.L ∧ Chg (prS P X p x) w wr) (fun c _ => n - (intOf c).toNat)
  case atStart => exact ⟨0, p, x, l, Nat.zero_le _, rfl, HRE.out, HP.out.chg CD.out (fun h => h) (fun h => h) (fun h => h), ⟨HX.out.src.chg CD.out (fun h => h), HX.out.led.chg CD.out (fun h => h)⟩, rfl, rfl, HNM.out, rfl, CD.out.mono (fun _ _ h => h.elim)⟩
  case round =>
    obtain ⟨i, q, y, m, hi, rfl, hrl, hpal, hpr, hqB, hqg, hqn, hyL, hch⟩ := hrel
    have HRL := Hi hrl
    have HPA := Hi hpal
    have HPR := Hi hpr
    have HQB := Hi hqB
    have HQG := Hi hqg
    have HYL := Hi hyL
    have CH := Hi hch
    have HQN := Hi hqn
    clear hrl hpal hpr hqB hqg hyL hch hqn hR
    by_cases hlt : i < n
    rotate_left
    · obtain rfl : i = n := by omega
      have E := Hi (show R = ((q, (y, m)), true) by rw [← HRL.out, Nat.sub_self]; rfl)
      go_wp2_with fail
      go_ret
      have hec := HEC.out
      rw [show palR k p x l i = ((q, (y, m)), true) from HRE.out.trans E.out] at hec ⊢
      exact ⟨by rw [← hec]; rfl, HPA.out, HPR.out, CH.out⟩
    have HTK := Hi (fun w0 (h0 : Pair w0 X y m) => take_any X y m k w0 h0)
    have HSUB := Hi (show n - i = (n - (i + 1)) + 1 by omega)
    cases hok : (y.next m k).2.2 with
    | false =>
      have E := Hi (show R = ((q, (y.next m k).1), false) by rw [← HRL.out, HSUB.out, palR, if_pos hok])
      have HTK := Hi (fun w0 (h0 : Pair w0 X y m) => (HTK.out w0 h0).mono (R' := fun e w' => e = .returned (.tuple #[.string (y.next m k).2.1, .bool false]) ∧ Pair w' X (y.next m k).1.1 (y.next m k).1.2 ∧ Chg (two X y) w0 w') fun e w' hh => by unfold NextPost at hh; rw [hok] at hh; exact hh)
      clear hok
      go_wp2_with ((go_at_call 66; (with_reducible refine (HTK.out _ HPR.out).mono ?_); rintro e w1 ⟨rfl, hp1, hc1⟩); have H1 := Hi hp1; have C2 := Hi hc1; clear hp1 hc1)
      go_ret
      have hec := HEC.out
      rw [show palR k p x l n = ((q, (y.next m k).1), false) from HRE.out.trans E.out] at hec ⊢
      have hyl : y.L = x.L := HYL.out
      refine ⟨by rw [← hec]; rfl, HPA.out.chg C2.out (fun e => ?_) (fun e => ?_) (fun e => ?_), H1.out, CH.out.trans (C2.out.mono (fun j _ e => ?_))⟩
      · rcases e with e | e
        · exact N1.out e
        · exact N2.out (e.trans hyl)
      · rw [HQB.out] at e
        rcases e with e | e
        · exact N3.out e
        · exact N4.out (e.trans hyl)
      · rw [HQG.out] at e
        rcases e with e | e
        · exact N5.out e
        · exact N6.out (e.trans hyl)
      · rcases e with e | e
        · exact Or.inr (Or.inr (Or.inl e))
        · exact Or.inr (Or.inr (Or.inr (e.trans hyl)))
    | true =>
      have E := Hi (show palR k (q.add (col3 (y.next m k).2.1)) (y.next m k).1.1 (y.next m k).1.2 (n - (i + 1)) = R by rw [← HRL.out, HSUB.out, palR, if_neg (by rw [hok]; decide)])
      have hz8 := nextz_8 y m k HPR.out.src.ok hok
      have HTK := Hi (fun w0 (h0 : Pair w0 X y m) => (HTK.out w0 h0).mono (R' := fun e w' => e = .returned (.tuple #[.string (y.next m k).2.1, .bool true]) ∧ Pair w' X (y.next m k).1.1 (y.next m k).1.2 ∧ Chg (two X y) w0 w') fun e w' hh => by unfold NextPost at hh; rw [hok] at hh; exact hh)
      have hLn := nextL_8 y m k
      obtain ⟨bs, hbs⟩ : ∃ bs, (y.next m k).2.1 = bs := ⟨_, rfl⟩
      obtain ⟨y2, hy2⟩ : ∃ y2, (y.next m k).1.1 = y2 := ⟨_, rfl⟩
      obtain ⟨m2, hm2⟩ : ∃ m2, (y.next m k).1.2 = m2 := ⟨_, rfl⟩
      rw [hbs] at HTK E hz8
      rw [hy2] at HTK E hLn
      rw [hm2] at HTK E
      have HLN := Hi hLn
      have HEN := Hi (fun w0 => pentry_any bs k w0 HK.out (by rw [hz8]; rcases HK.out with rfl | rfl <;> decide))
      have HAD := Hi (fun w0 (hA : PalAt w0 P q) => (show Calls Tryz.prog 146 #[.pointer (some ⟨P, 0, none⟩), .agg #[.int .u8 (byN bs 2), .int .u8 (byN bs 1), .int .u8 (byN bs 0), .int .u8 255]] w0 (fun e w' => e = .returned (.bool true) ∧ PalAt w' P (q.add (col3 bs)) ∧ Chg (fun k => k = P ∨ k = q.b.g) w0 w') from
        padd_any P q (byN bs 2) (byN bs 1) (byN bs 0) 255 w0 hA (by have := HQN.out; omega) (fun z hz => by
          simp at hz
          rcases hz with rfl | rfl | rfl | rfl
          · exact byN_bd bs 2
          · exact byN_bd bs 1
          · exact byN_bd bs 0
          · decide)))
      clear hok hz8 hbs hy2 hm2 hLn
      go_upto_region 11 with ((go_at_call 66; (with_reducible refine (HTK.out _ HPR.out).mono ?_); rintro e w1 ⟨rfl, hp1, hc1⟩); have H1 := Hi hp1; have C2 := Hi hc1; clear hp1 hc1)
      have HPA := Hi (HPA.out.chg C2.out (fun e => by
        rcases e with e | e
        · exact N1.out e
        · exact N2.out (e.trans HYL.out)) (fun e => by
        rw [HQB.out] at e
        rcases e with e | e
        · exact N3.out e
        · exact N4.out (e.trans HYL.out)) (fun e => by
        rw [HQG.out] at e
        rcases e with e | e
        · exact N5.out e
        · exact N6.out (e.trans HYL.out)))
      have CH := Hi (CH.out.trans (C2.out.mono (S' := prS P X p x) (fun j _ e => by
        rcases e with e | e
        · exact Or.inr (Or.inr (Or.inl e))
        · exact Or.inr (Or.inr (Or.inr (e.trans HYL.out))))))
      clear C2
      go_upto_region 12 with ((go_at_call 145; (with_reducible refine (HEN.out _).mono ?_); rintro e w2 ⟨rfl, hc2⟩); have HPA := Hi (HPA.out.chg hc2 (fun h => h) (fun h => h) (fun h => h)); have H1 := Hi (show Pair w2 X y2 m2 from ⟨H1.out.src.chg hc2 (fun h => h), H1.out.led.chg hc2 (fun h => h)⟩); have CH := Hi (CH.out.trans (hc2.mono (fun _ _ h => h.elim))); clear hc2)
      have hc3 := (Chg.refl (fun _ => False) w2).alloc (.cells #[.int .u8 (byN bs 2), .int .u8 (byN bs 1), .int .u8 (byN bs 0), .int .u8 255] 185)
      have O12 := Hi (obj1_new w2 #[.int .u8 (byN bs 2), .int .u8 (byN bs 1), .int .u8 (byN bs 0), .int .u8 255] 185)
      have HPA := Hi (HPA.out.chg hc3 (fun h => h) (fun h => h) (fun h => h))
      have H1 := Hi (show Pair (w2.alloc (.cells #[.int .u8 (byN bs 2), .int .u8 (byN bs 1), .int .u8 (byN bs 0), .int .u8 255] 185)) X y2 m2 from ⟨H1.out.src.chg hc3 (fun h => h), H1.out.led.chg hc3 (fun h => h)⟩)
      have CH := Hi (CH.out.trans (hc3.mono (fun _ _ h => h.elim)))
      generalize w2.heap.size = p12 at O12 ⊢
      generalize World.alloc w2 _ = w3 at HPA H1 CH O12 ⊢
      clear hc3
      go_wp2_with (first
        | (refine load_u (by kernel_rfl) 185 4 _ rfl p12 [.int .u8 (byN bs 2), .int .u8 (byN bs 1), .int .u8 (byN bs 0), .int .u8 255] rfl rfl O12.out Tryz.underlying185 rfl (by kernel_rfl) ?_; intro _)
        | ((go_at_call 146; (with_reducible refine (HAD.out _ HPA.out).mono ?_); rintro e w4 ⟨rfl, hp4, hc4⟩); have HP4 := Hi hp4; have C4 := Hi hc4; clear hp4 hc4))
      go_roundw
      case rel =>
        have hyl : y2.L = x.L := HLN.out.trans HYL.out
        have n1 := N1.out
        have n2 := N2.out
        have n5 := N5.out
        have n6 := N6.out
        have hqg := HQG.out
        refine ⟨i + 1, q.add (col3 bs), y2, m2, by omega, by go_num, E.out, HP4.out, ⟨H1.out.src.chg C4.out (fun e => ?_), H1.out.led.chg C4.out (fun e => ?_)⟩, HQB.out, HQG.out, by show q.n + 1 + (n - (i + 1)) ≤ q.most; have := HQN.out; omega, hyl, CH.out.trans (C4.out.mono (fun j _ e => ?_))⟩
        · rcases e with e | e
          · exact n1 e.symm
          · rw [hqg] at e; exact n5 e.symm
        · rw [hyl] at e
          rcases e with e | e
          · exact n2 e.symm
          · rw [hqg] at e; exact n6 e.symm
        · rcases e with e | e
          · exact Or.inl e
          · exact Or.inr (Or.inl (e.trans hqg))
      case measure => simp [intOf]; omega
end Go.Proofs.YtlfbaggcfaenlaaGreat

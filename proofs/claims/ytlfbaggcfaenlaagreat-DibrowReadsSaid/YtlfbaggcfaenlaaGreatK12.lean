/- dibhead.Read: what it answers, plain. -/
import Derived.Test.YtlfbaggcfaenlaaGreatK7
import Derived.Test.YtlfbaggcfaenlaaGreatK11
import Derived.Test.YtlfbaggcfaenlaaGreatK5
import Derived.Test.YtlfbaggcfaenlaaGreatK4
import Derived.Test.YtlfbaggcfaenlaaGreatK0
namespace Go.Proofs.YtlfbaggcfaenlaaGreat
open Go.RowKit
set_option linter.unusedVariables false
set_option linter.unusedSimpArgs false
def comM (dp : Int) : List Int := if dp = 16 then [10, 5, 5, 5, 0, 5, 0, 0] else if dp = 32 then [16, 8, 8, 8, 0, 8, 0, 0] else z8
theorem common_any (dp : Int) (w : World) : Calls Tryz.prog 69 #[.int .i64 dp] w fun e w' => ∃ b, e = .returned (.tuple #[.agg (List.toArray ((comM dp).map (.int .i64))), .bool b]) ∧ Below w.heap.size w w' := by
  by_cases h1 : dp = 16
  · subst h1; exact (common16 w).mono fun e w' hh => ⟨true, hh.1, hh.2⟩
  by_cases h2 : dp = 32
  · subst h2; exact (common32 w).mono fun e w' hh => ⟨true, hh.1, hh.2⟩
  exact (common_no dp w (eqf h1) (eqf h2)).mono fun e w' hh => ⟨false, hh.1.trans (by unfold comM; rw [if_neg h1, if_neg h2]; rfl), hh.2⟩
def hdOf (b : ByteArray) : Hd := if b.size = 12 then smallH b else greatH b
def fdOf (b : ByteArray) : List Fnd := if b.size = 12 then smallF b else greatF b
theorem hdOf_m (b : ByteArray) : (hdOf b).m = z8 ∧ (hdOf b).fr = 0 ∧ (hdOf b).sz = b.size := by
  unfold hdOf
  split
  · rename_i h; exact ⟨rfl, rfl, by rw [h]; rfl⟩
  · exact ⟨rfl, rfl, rfl⟩
theorem fdOf_len (b : ByteArray) : (b.size = 12 → (fdOf b).length = 6) ∧ (b.size ≠ 12 → (fdOf b).length = 10) := by
  unfold fdOf
  exact ⟨fun h => by rw [if_pos h]; rfl, fun h => by rw [if_neg h]; rfl⟩
theorem hdOf_mt (b : ByteArray) (h : b.size = 12) : (hdOf b).mt = 0 := by unfold hdOf; rw [if_pos h]; rfl
def tkOk (x : Sr) (l : Led) : Bool := (x.next l 4).2.2 && (headsB (lowK (x.next l 4).2.1 0 4) && ((x.next l 4).1.1.next (x.next l 4).1.2 (lowK (x.next l 4).2.1 0 4 - 4)).2.2)
theorem faultL_kind (y : Sr) (m : Led) (f : Int) : ∃ k a p : Int, k ≠ 0 ∧ faultL y m f = [.int .i64 k, .int .i64 a, .int .i64 p] := by
  unfold faultL; split
  · exact ⟨4, f, _, by decide, rfl⟩
  · exact ⟨1, f, _, by decide, rfl⟩
theorem tk_bad {x : Sr} {l : Led} (f : Int) (h : tkOk x l = false) : ∃ k a p : Int, k ≠ 0 ∧ (tkRes x l f).1 = (ByteArray.empty, [.int .i64 k, .int .i64 a, .int .i64 p]) := by
  unfold tkOk at h
  unfold tkRes
  by_cases h1 : (x.next l 4).2.2 = false
  · rw [if_pos h1]
    obtain ⟨k, a, p, hk, e⟩ := faultL_kind (x.next l 4).1.1 (x.next l 4).1.2 f
    exact ⟨k, a, p, hk, by rw [e]⟩
  rw [if_neg h1]
  rw [show (x.next l 4).2.2 = true by simpa using h1, Bool.true_and] at h
  by_cases h2 : headsB (lowK (x.next l 4).2.1 0 4) = false
  · rw [if_pos h2]
    by_cases h3 : knownH (lowK (x.next l 4).2.1 0 4) = true
    · exact ⟨3, f, x.p, by decide, by rw [if_pos h3]⟩
    · exact ⟨2, f, x.p, by decide, by rw [if_neg h3]⟩
  rw [if_neg h2]
  rw [show headsB (lowK (x.next l 4).2.1 0 4) = true by simpa using h2, Bool.true_and] at h
  rw [if_pos h]
  obtain ⟨k, a, p, hk, e⟩ := faultL_kind ((x.next l 4).1.1.next (x.next l 4).1.2 (lowK (x.next l 4).2.1 0 4 - 4)).1.1 ((x.next l 4).1.1.next (x.next l 4).1.2 (lowK (x.next l 4).2.1 0 4 - 4)).1.2 f
  exact ⟨k, a, p, hk, by rw [e]⟩
theorem ext_app (s : ByteArray) (a b c : Nat) (h1 : a ≤ b) (h2 : b ≤ c) : s.extract a b ++ s.extract b c = s.extract a c := by
  rw [ByteArray.extract_append_extract]; congr 1 <;> omega
structure TkGood (x : Sr) (l : Led) (f : Int) (n : Nat) : Prop where
  hd : headsB n = true
  le : x.p + n ≤ x.e
  fz : (tkRes x l f).1.2 = [.int .i64 0, .int .i64 0, .int .i64 0]
  bt : (tkRes x l f).1.1 = x.s.extract x.p (x.p + n)
  st : (tkRes x l f).2 = ({ x with p := x.p + n }, ((l.work 1).1.work 1).1)
  lo : lowK x.s x.p 4 = n
  w1 : (l.work 1).2 = true
  w2 : ((l.work 1).1.work 1).2 = true
theorem lowK_ext (s : ByteArray) (a b i k : Nat) (h : a + i + k ≤ b) (hb : b ≤ s.size) : lowK (s.extract a b) i k = lowK s (a + i) k := by
  induction k with
  | zero => rfl
  | succ k ih => rw [lowK, lowK, ih (by omega), byN_ext s a b (i + k) (by omega) hb, Nat.add_assoc a i k]
theorem tk_good {x : Sr} {l : Led} (f : Int) (hx : x.ok) (h : tkOk x l = true) : ∃ n, TkGood x l f n := by
  unfold tkOk at h
  rw [Bool.and_eq_true, Bool.and_eq_true] at h
  obtain ⟨h1, h2, h3⟩ := h
  obtain ⟨q1, -, q2, q3, q4, q5⟩ := next_ok h1
  have hl := heads_le h2
  obtain ⟨n, hn⟩ : ∃ n : Nat, lowK (x.next l 4).2.1 0 4 = n := ⟨_, (Int.toNat_of_nonneg (by omega)).symm⟩
  rw [hn] at h2 h3 hl
  obtain ⟨r1, -, r2, r3, r4, r5⟩ := next_ok h3
  have hes := hx.es
  have e4 : ((4 : Int)).toNat = 4 := rfl
  have en : ((n : Int) - 4).toNat = n - 4 := by omega
  rw [e4] at q3 q5
  rw [en] at r3 r5
  have e5 : x.p + 4 + (n - 4) = x.p + n := by omega
  have r3 := r3.trans (show _ = ({ x with p := x.p + n } : Sr) by rw [q3]; simp only [e5])
  have r5 := r5.trans (show _ = x.s.extract (x.p + 4) (x.p + n) by rw [q3]; simp only [e5])
  rw [q4] at r1
  have r4 := r4.trans (show _ = ((l.work 1).1.work 1).1 by rw [q4])
  rw [q3] at r2
  simp only at r2
  have hlo : lowK x.s x.p 4 = n := by rw [← hn, q5, lowK_ext x.s x.p (x.p + 4) 0 4 (by omega) (by omega)]; rfl
  have hT : tkRes x l f = (((x.next l 4).2.1 ++ ((x.next l 4).1.1.next (x.next l 4).1.2 ((n : Int) - 4)).2.1, [.int .i64 0, .int .i64 0, .int .i64 0]), ((x.next l 4).1.1.next (x.next l 4).1.2 ((n : Int) - 4)).1) := by
    unfold tkRes
    rw [if_neg (by rw [h1]; decide), hn, if_neg (by rw [h2]; decide), if_neg (by rw [h3]; decide)]
  refine ⟨n, h2, by omega, by rw [hT], ?_, ?_, hlo, q1, r1⟩
  · rw [hT, q5, r5]; exact ext_app x.s x.p (x.p + 4) (x.p + n) (by omega) (by omega)
  · rw [hT]; exact Prod.ext r3 r4
def zero16 : List Value := [.int .i64 0, .int .i64 0, .int .i64 0, .bool false, .int .i64 0, .int .i64 0, .int .i64 0, .int .i64 0, .int .i64 0, .int .i64 0, .int .i64 0, .int .i64 0, .int .i64 0, .int .i64 0, .int .i64 0, .int .i64 0]
def zero3 : List Value := [.int .i64 0, .int .i64 0, .int .i64 0]
def Hd.at (a : Hd) (m : List Int) (fr : Int) : List Value := [.int .i64 a.sz, .int .i64 a.w, .int .i64 a.h, .bool a.top, .int .i64 a.dp, .int .i64 a.mt, .int .i64 a.co] ++ (m.map (.int .i64) ++ [.int .i64 fr])
def hEnd (b : ByteArray) (h : Hd) (f p : Int) : List Value × List Value :=
  if (scan4 (pstep (mkL b h.sz) h.dp)).2 != 0 then (zero16, [.int .i64 2, .int .i64 f, .int .i64 (p + (40 + 4 * (scan4 (pstep (mkL b h.sz) h.dp)).1))]) else (h.at (mk8 (mkL b h.sz) h.dp) p, zero3)
def hRun (x : Sr) (l : Led) (f : Int) (b : ByteArray) (y : Sr) (m : Led) (h : Hd) (F : Fnd × Bool) : (List Value × List Value) × (Sr × Led) :=
  if F.2 = true then ((zero16, [.int .i64 F.1.2.1, .int .i64 f, .int .i64 (x.p + F.1.2.2)]), (y, m)) else
  if (h.mt == 3) = true then
    (if (h.sz == 40) = true then
      (if (y.next m 12).2.2 = true then (hEnd (b ++ (y.next m 12).2.1) h f x.p, (y.next m 12).1) else ((zero16, faultL (y.next m 12).1.1 (y.next m 12).1.2 f), (y.next m 12).1))
     else (hEnd b h f x.p, (y, m)))
  else ((h.at (comM h.dp) x.p, zero3), (y, m))
def hRead (x : Sr) (l : Led) (f : Int) : (List Value × List Value) × (Sr × Led) :=
  if tkOk x l = false then ((zero16, (tkRes x l f).1.2), (tkRes x l f).2) else
  hRun x l f (tkRes x l f).1.1 (tkRes x l f).2.1 (tkRes x l f).2.2 (hdOf (tkRes x l f).1.1) (firstW (fdOf (tkRes x l f).1.1))
def HReadPost (w : World) (X : Nat) (x : Sr) (R : (List Value × List Value) × (Sr × Led)) (e : Ending) (w' : World) : Prop :=
  e = .returned (.tuple #[.agg R.1.1.toArray, .agg R.1.2.toArray]) ∧ Pair w' X R.2.1 R.2.2 ∧ Chg (two X x) w w'
theorem owns_range {w : World} {base e size n g cap : Nat} {xs : List Value} (h : w.ownsRow base e size (.slice (some ⟨g, 0, none⟩) n cap) n xs) : w.rangeAt g 0 xs := by
  obtain ⟨hl, h2⟩ := h
  rcases h2 with ⟨h2, _⟩ | ⟨g', cap', cur, hv, hg, hh, hn, hc, hs, ht⟩
  · simp at h2
  · have e' : g' = g := by injection hv with hv; injection hv with hv; injection hv with hv; exact hv.symm
    subst e'
    intro j v hv
    rw [← ht, List.getElem?_take] at hv
    split at hv
    · simp [World.cell?, hh]; simpa using hv
    · cases hv
theorem owns_lt {w : World} {base e size n g cap : Nat} {xs : List Value} (h : w.ownsRow base e size (.slice (some ⟨g, 0, none⟩) n cap) n xs) : base ≤ g ∧ g < w.heap.size := owns_blk h rfl
theorem isN_nat (a : Nat) (h : a ≤ 1000000) : isN a = true := by unfold isN; rw [decide_eq_true (by omega), decide_eq_true (by omega)]; rfl
set_option maxRecDepth 100000 in
theorem nmul_any (a b : Nat) (w : World) (ha : a ≤ 1000000) (hb : b ≤ 1000000) : Calls Tryz.prog 150 #[.int .i64 a, .int .i64 b] w fun e w' => e = .returned (.tuple #[.int .i64 ((a * b : Nat) : Int), .bool true]) ∧ Below w.heap.size w w' := by
  have hab : a * b ≤ 1000000000000 := Nat.mul_le_mul ha hb
  have HIS := Hi (fun (w0 : World) (B : Nat) (ho : Obj1 w0 B #[.int .i64 a, .int .i64 b] 3) => (show Calls Tryz.prog 214 #[.slice (some ⟨B, 0, none⟩) (2 : Nat) 2] w0 (fun e w' => e = .returned (.bool true) ∧ w' = w0) from (is_any [a, b] 2 B 2 w0 rfl (by decide) (Obj1.range0 (cs := [.int .i64 a, .int .i64 b]) ho)).mono fun e w' hh => ⟨hh.1.trans (by simp [isN_nat a ha, isN_nat b hb]), hh.2⟩))
  have HM := Hi (fun w0 => (show Calls Tryz.prog 215 #[.int .u64 a, .int .u64 b] w0 (fun e w' => e = .returned (.tuple #[.int .u64 0, .int .u64 ((a * b : Nat) : Int)]) ∧ w' = w0) from (mul64_any a b (by omega) (by omega) w0).mono fun e w' hh => ⟨hh.1.trans (by rw [Nat.div_eq_of_lt (by omega), Nat.mod_eq_of_lt (by omega)]; rfl), hh.2⟩))
  obtain ⟨c, hc⟩ : ∃ c, a * b = c := ⟨_, rfl⟩
  rw [hc] at HM hab ⊢
  have e1 : (a : Int) % 18446744073709551616 = a := by omega
  have e2 : (b : Int) % 18446744073709551616 = b := by omega
  have D : decide ((c : Int) > 4611686018427387904) = false := by rw [decide_eq_false_iff_not]; omega
  have BL := Hi ((Below.refl w.heap.size w).alloc (Nat.le_refl _) (.cells #[.int .i64 a, .int .i64 b] 3))
  clear hc
  go_enter Tryz.func150, Tryz.ntmps150
  go_wp2_with (first
    | ((with_reducible refine skip_g rfl ?_ ?_); rfl; intro _)
    | ((go_at_call 214; (with_reducible refine (HIS.out _ _ (obj1_new _ _ _)).mono ?_); rintro e wq ⟨rfl, rfl⟩))
    | ((go_at_call 215; (with_reducible refine (HM.out _).mono ?_); rintro e wq ⟨rfl, rfl⟩)))
  go_ret2
  exact ⟨rfl, BL.out⟩
set_option maxRecDepth 100000 in
theorem nceil_any (a : Nat) (w : World) (ha : a ≤ 1000000) : Calls Tryz.prog 228 #[.int .i64 a, .int .i64 32] w fun e w' => e = .returned (.tuple #[.int .i64 (((a + 31) / 32 : Nat) : Int), .bool true]) ∧ Below w.heap.size w w' := by
  have HIS := Hi (fun (w0 : World) (B : Nat) (ho : Obj1 w0 B #[.int .i64 a, .int .i64 32] 3) => (show Calls Tryz.prog 214 #[.slice (some ⟨B, 0, none⟩) (2 : Nat) 2] w0 (fun e w' => e = .returned (.bool true) ∧ w' = w0) from (is_any [a, 32] 2 B 2 w0 rfl (by decide) (Obj1.range0 (cs := [.int .i64 a, .int .i64 32]) ho)).mono fun e w' hh => ⟨hh.1.trans (by rw [List.all_cons, isN_nat a ha]; rfl), hh.2⟩))
  have BL := Hi ((Below.refl w.heap.size w).alloc (Nat.le_refl _) (.cells #[.int .i64 a, .int .i64 32] 3))
  by_cases h : a % 32 = 0
  · have D : ((a : Int) % 32 != 0) = false := by rw [bne_eq_false_iff_eq]; omega
    have E := Hi (show ((a : Int) / 32) = (((a + 31) / 32 : Nat) : Int) by omega)
    go_enter Tryz.func228, Tryz.ntmps228
    go_wp2_with (first
      | ((with_reducible refine skip_g rfl ?_ ?_); rfl; intro _)
      | ((go_at_call 214; (with_reducible refine (HIS.out _ _ (obj1_new _ _ _)).mono ?_); rintro e wq ⟨rfl, rfl⟩)))
    go_ret2
    exact ⟨by rw [← E.out]; rfl, BL.out⟩
  · have D : ((a : Int) % 32 != 0) = true := by rw [bne_iff_ne]; omega
    have E := Hi (show ((a : Int) / 32 + 1) = (((a + 31) / 32 : Nat) : Int) by omega)
    go_enter Tryz.func228, Tryz.ntmps228
    go_wp2_with (first
      | ((with_reducible refine skip_g rfl ?_ ?_); rfl; intro _)
      | ((go_at_call 214; (with_reducible refine (HIS.out _ _ (obj1_new _ _ _)).mono ?_); rintro e wq ⟨rfl, rfl⟩)))
    go_ret2
    exact ⟨by rw [← E.out]; rfl, BL.out⟩
def strideN (a b : Nat) : Nat := (a * b + 31) / 32 * 32 / 8
set_option maxRecDepth 100000 in
theorem nstride_any (a b : Nat) (w : World) (ha : a ≤ 16384) (hb0 : 1 ≤ b) (hb : b ≤ 32) : Calls Tryz.prog 175 #[.int .i64 a, .int .i64 b, .int .i64 32] w fun e w' => e = .returned (.tuple #[.int .i64 (strideN a b : Int), .bool true]) ∧ Below w.heap.size w w' := by
  have hab : a * b ≤ 16384 * 32 := Nat.mul_le_mul ha hb
  have HIS := Hi (fun (w0 : World) (B : Nat) (ho : Obj1 w0 B #[.int .i64 a, .int .i64 b, .int .i64 32] 3) => (show Calls Tryz.prog 214 #[.slice (some ⟨B, 0, none⟩) (3 : Nat) 3] w0 (fun e w' => e = .returned (.bool true) ∧ w' = w0) from (is_any [a, b, 32] 3 B 3 w0 rfl (by decide) (Obj1.range0 (cs := [.int .i64 a, .int .i64 b, .int .i64 32]) ho)).mono fun e w' hh => ⟨hh.1.trans (by rw [List.all_cons, isN_nat a (by omega), List.all_cons, isN_nat b (by omega)]; rfl), hh.2⟩))
  have H1 := Hi (fun w0 => nmul_any a b w0 (by omega) (by omega))
  obtain ⟨c, hc⟩ : ∃ c, a * b = c := ⟨_, rfl⟩
  have H2 := Hi (fun w0 => nceil_any c w0 (by omega))
  obtain ⟨d, hd⟩ : ∃ d, (c + 31) / 32 = d := ⟨_, rfl⟩
  have H3 := Hi (fun w0 => (show Calls Tryz.prog 150 #[.int .i64 d, .int .i64 32] w0 (fun e w' => e = .returned (.tuple #[.int .i64 ((d * 32 : Nat) : Int), .bool true]) ∧ Below w0.heap.size w0 w') from nmul_any d 32 w0 (by omega) (by omega)))
  rw [hc] at H1
  rw [hd] at H2
  obtain ⟨f, hf⟩ : ∃ f, d * 32 = f := ⟨_, rfl⟩
  rw [hf] at H3
  have E := Hi (show (f : Int) / 8 = (strideN a b : Int) by unfold strideN; rw [hc, hd, hf]; omega)
  have D : ((b : Int) == 0) = false := by rw [beq_eq_false_iff_ne]; omega
  have BL := Hi ((Below.refl w.heap.size w).alloc (Nat.le_refl _) (.cells #[.int .i64 a, .int .i64 b, .int .i64 32] 3))
  have EF := Hi (show wrap64 ((f : Int) / 8) = (f : Int) / 8 from IntWalk.wrap64_in _ ⟨by omega, by omega⟩)
  clear hc hd hf hab
  go_enter Tryz.func175, Tryz.ntmps175
  go_wp2_with (first
    | ((with_reducible refine skip_g rfl ?_ ?_); rfl; intro _)
    | ((go_at_call 214; (with_reducible refine (HIS.out _ _ (obj1_new _ _ _)).mono ?_); rintro e wq ⟨rfl, rfl⟩))
    | ((go_at_call 150; (with_reducible refine (H1.out _).mono ?_); rintro e wq ⟨rfl, hb⟩); have BL := Hi (bthen hb BL.out BL.out.size); clear hb)
    | ((go_at_call 228; (with_reducible refine (H2.out _).mono ?_); rintro e wq ⟨rfl, hb⟩); have BL := Hi (bthen hb BL.out BL.out.size); clear hb)
    | ((go_at_call 150; (with_reducible refine (H3.out _).mono ?_); rintro e wq ⟨rfl, hb⟩); have BL := Hi (bthen hb BL.out BL.out.size); clear hb))
  go_ret2
  exact ⟨(show _ = Ending.returned (.tuple #[.int .i64 (wrap64 ((f : Int) / 8)), .bool true]) from rfl).trans (by rw [EF.out, E.out]), BL.out⟩
set_option maxRecDepth 100000 in
theorem hstride_any (sz : Int) (a : Nat) (H : Int) (top : Bool) (b : Nat) (mt co k0 k1 k2 k3 k4 k5 k6 k7 fr : Int) (w : World) (ha : a ≤ 16384) (hb0 : 1 ≤ b) (hb : b ≤ 32) :
    Calls Tryz.prog 103 #[.agg (List.toArray [.int .i64 sz, .int .i64 a, .int .i64 H, .bool top, .int .i64 b, .int .i64 mt, .int .i64 co, .int .i64 k0, .int .i64 k1, .int .i64 k2, .int .i64 k3, .int .i64 k4, .int .i64 k5, .int .i64 k6, .int .i64 k7, .int .i64 fr])] w fun e w' => e = .returned (.int .i64 (strideN a b : Int)) ∧ Below w.heap.size w w' := by
  have HS := Hi (fun w0 => nstride_any a b w0 ha hb0 hb)
  have O1 := Hi (obj1_new w (List.toArray [.int .i64 sz, .int .i64 a, .int .i64 H, .bool top, .int .i64 b, .int .i64 mt, .int .i64 co, .int .i64 k0, .int .i64 k1, .int .i64 k2, .int .i64 k3, .int .i64 k4, .int .i64 k5, .int .i64 k6, .int .i64 k7, .int .i64 fr]) 37)
  have BL := Hi ((Below.refl w.heap.size w).alloc (Nat.le_refl _) (.cells (List.toArray [.int .i64 sz, .int .i64 a, .int .i64 H, .bool top, .int .i64 b, .int .i64 mt, .int .i64 co, .int .i64 k0, .int .i64 k1, .int .i64 k2, .int .i64 k3, .int .i64 k4, .int .i64 k5, .int .i64 k6, .int .i64 k7, .int .i64 fr]) 37))
  obtain ⟨d, hd⟩ : ∃ d, (strideN a b : Int) = d := ⟨_, rfl⟩
  rw [hd] at HS ⊢
  clear hd ha hb hb0
  go_enter Tryz.func103, Tryz.ntmps103
  go_upto_region 1 with (fail)
  generalize World.alloc _ _ = w1 at O1 BL ⊢
  have c1 : w1.cell? ⟨w.heap.size, 1, none⟩ = some (.int .i64 a) := (O1.out.cell 1).trans rfl
  have c4 : w1.cell? ⟨w.heap.size, 4, none⟩ = some (.int .i64 b) := (O1.out.cell 4).trans rfl
  go_wp2_with ((go_at_call 175; (with_reducible refine (HS.out _).mono ?_); rintro e wq ⟨rfl, hb⟩); have BL := Hi (bthen hb BL.out BL.out.size); clear hb)
  go_ret
  exact ⟨rfl, BL.out⟩
theorem isN_nat2 (a : Nat) (h : a ≤ 1000000000) : isN a = true := by unfold isN; rw [decide_eq_true (by omega), decide_eq_true (by omega)]; rfl
set_option maxRecDepth 100000 in
theorem nmul2_any (a b : Nat) (w : World) (ha : a ≤ 1000000000) (hb : b ≤ 1000000) : Calls Tryz.prog 150 #[.int .i64 a, .int .i64 b] w fun e w' => e = .returned (.tuple #[.int .i64 ((a * b : Nat) : Int), .bool true]) ∧ Below w.heap.size w w' := by
  have hab : a * b ≤ 1000000000000000 := Nat.mul_le_mul ha hb
  have HIS := Hi (fun (w0 : World) (B : Nat) (ho : Obj1 w0 B #[.int .i64 a, .int .i64 b] 3) => (show Calls Tryz.prog 214 #[.slice (some ⟨B, 0, none⟩) (2 : Nat) 2] w0 (fun e w' => e = .returned (.bool true) ∧ w' = w0) from (is_any [a, b] 2 B 2 w0 rfl (by decide) (Obj1.range0 (cs := [.int .i64 a, .int .i64 b]) ho)).mono fun e w' hh => ⟨hh.1.trans (by simp [isN_nat2 a ha, isN_nat2 b (by omega)]), hh.2⟩))
  have HM := Hi (fun w0 => (show Calls Tryz.prog 215 #[.int .u64 a, .int .u64 b] w0 (fun e w' => e = .returned (.tuple #[.int .u64 0, .int .u64 ((a * b : Nat) : Int)]) ∧ w' = w0) from (mul64_any a b (by omega) (by omega) w0).mono fun e w' hh => ⟨hh.1.trans (by rw [Nat.div_eq_of_lt (by omega), Nat.mod_eq_of_lt (by omega)]; rfl), hh.2⟩))
  obtain ⟨c, hc⟩ : ∃ c, a * b = c := ⟨_, rfl⟩
  rw [hc] at HM hab ⊢
  have e1 : (a : Int) % 18446744073709551616 = a := by omega
  have e2 : (b : Int) % 18446744073709551616 = b := by omega
  have D : decide ((c : Int) > 4611686018427387904) = false := by rw [decide_eq_false_iff_not]; omega
  have BL := Hi ((Below.refl w.heap.size w).alloc (Nat.le_refl _) (.cells #[.int .i64 a, .int .i64 b] 3))
  clear hc
  go_enter Tryz.func150, Tryz.ntmps150
  go_wp2_with (first
    | ((with_reducible refine skip_g rfl ?_ ?_); rfl; intro _)
    | ((go_at_call 214; (with_reducible refine (HIS.out _ _ (obj1_new _ _ _)).mono ?_); rintro e wq ⟨rfl, rfl⟩))
    | ((go_at_call 215; (with_reducible refine (HM.out _).mono ?_); rintro e wq ⟨rfl, rfl⟩)))
  go_ret2
  exact ⟨rfl, BL.out⟩
theorem rasside_any (n : Int) (w : World) : Calls Tryz.prog 76 #[.int .i64 n] w fun e w' => e = .returned (.bool (decide (1 ≤ n ∧ n ≤ 16384))) ∧ w' = w := by
  by_cases h1 : n < 1
  · have E := Hi (show decide (1 ≤ n ∧ n ≤ 16384) = false by rw [decide_eq_false_iff_not]; omega)
    rw [E.out]
    go_enter Tryz.func76, Tryz.ntmps76
    go_wp2_with ((with_reducible refine skip_g rfl ?_ ?_); rfl; intro _)
    go_ret
    exact ⟨rfl, rfl⟩
  · by_cases h2 : 16384 < n
    · have E := Hi (show decide (1 ≤ n ∧ n ≤ 16384) = false by rw [decide_eq_false_iff_not]; omega)
      rw [E.out]
      have h3 : ¬ n ≤ 16384 := by omega
      go_enter Tryz.func76, Tryz.ntmps76
      go_wp2_with ((with_reducible refine skip_g rfl ?_ ?_); rfl; intro _)
      go_ret
      exact ⟨rfl, rfl⟩
    · have E := Hi (show decide (1 ≤ n ∧ n ≤ 16384) = true by rw [decide_eq_true_iff]; omega)
      rw [E.out]
      have h3 : n ≤ 16384 := by omega
      go_enter Tryz.func76, Tryz.ntmps76
      go_wp2_with ((with_reducible refine skip_g rfl ?_ ?_); rfl; intro _)
      go_ret
      exact ⟨rfl, rfl⟩
set_option maxRecDepth 100000 in
set_option maxHeartbeats 4000000 in
theorem fold3_any (a b c B : Nat) (T : TypeId) (w : World) (ha : a ≤ 16384) (hb : b ≤ 16384) (hc : c ≤ 100) (h : Obj1 w B #[.int .i64 a, .int .i64 b, .int .i64 c] T) :
    Calls Tryz.prog 149 #[.int .i64 1, .func (.func 150) #[] #[], .slice (some ⟨B, 0, none⟩) 3 3] w fun e w' => e = .returned (.tuple #[.int .i64 ((a * b * c : Nat) : Int), .bool true]) ∧ Below w.heap.size w w' := by
  have hab : a * b ≤ 268435456 := Nat.mul_le_mul ha hb
  obtain ⟨p, hp⟩ : ∃ p, a * b = p := ⟨_, rfl⟩
  obtain ⟨q, hq⟩ : ∃ q, p * c = q := ⟨_, rfl⟩
  have H1 := Hi (fun w0 => (show Calls Tryz.prog 150 #[.int .i64 1, .int .i64 a] w0 (fun e w' => e = .returned (.tuple #[.int .i64 a, .bool true]) ∧ Below w0.heap.size w0 w') from (nmul2_any 1 a w0 (by decide) (by omega)).mono fun e w' hh => by rw [Nat.one_mul] at hh; exact hh))
  have H2 := Hi (fun w0 => (show Calls Tryz.prog 150 #[.int .i64 a, .int .i64 b] w0 (fun e w' => e = .returned (.tuple #[.int .i64 p, .bool true]) ∧ Below w0.heap.size w0 w') from (nmul2_any a b w0 (by omega) (by omega)).mono fun e w' hh => by rw [hp] at hh; exact hh))
  have H3 := Hi (fun w0 => (show Calls Tryz.prog 150 #[.int .i64 p, .int .i64 c] w0 (fun e w' => e = .returned (.tuple #[.int .i64 q, .bool true]) ∧ Below w0.heap.size w0 w') from (nmul2_any p c w0 (by omega) (by omega)).mono fun e w' hh => by rw [hq] at hh; exact hh))
  rw [hp, hq]
  have hlt := h.lt
  have k0 := (h.cell 0).trans (show _ = some (.int .i64 (a : Int)) from rfl)
  have HO := Hi h
  have BL := Hi (Below.refl w.heap.size w)
  clear hab hp hq h
  go_enter Tryz.func149, Tryz.ntmps149
  go_wp2
  refine wp_loop_rounds 4 ?_
  rw [rounds_succ]
  go_wp2_with (go_at_call 150; (with_reducible refine (H1.out _).mono ?_); rintro e w1 ⟨rfl, hb1⟩; have HO := Hi (HO.out.below hb1 hlt); have BL := Hi (bthen hb1 BL.out (by omega)); have k1 := (HO.out.cell 1).trans (show _ = some (.int .i64 (b : Int)) from rfl))
  rw [rounds_succ]
  go_wp2_with (go_at_call 150; (with_reducible refine (H2.out _).mono ?_); rintro e w2 ⟨rfl, hb2⟩; have HO := Hi (HO.out.below hb2 HO.out.lt); have BL := Hi (bthen hb2 BL.out BL.out.size); have k2 := (HO.out.cell 2).trans (show _ = some (.int .i64 (c : Int)) from rfl))
  rw [rounds_succ]
  go_wp2_with (go_at_call 150; (with_reducible refine (H3.out _).mono ?_); rintro e w3 ⟨rfl, hb3⟩; have BL := Hi (bthen hb3 BL.out BL.out.size))
  rw [rounds_succ]
  go_wp2_with fail
  go_ret2
  exact ⟨rfl, BL.out⟩
set_option maxRecDepth 100000 in
theorem prod3_any (a b c B : Nat) (T : TypeId) (w : World) (ha : a ≤ 16384) (hb : b ≤ 16384) (hc : c ≤ 100) (h : Obj1 w B #[.int .i64 a, .int .i64 b, .int .i64 c] T) :
    Calls Tryz.prog 78 #[.slice (some ⟨B, 0, none⟩) 3 3] w fun e w' => e = .returned (.tuple #[.int .i64 ((a * b * c : Nat) : Int), .bool true]) ∧ Below w.heap.size w w' := by
  have HF := Hi (fold3_any a b c B T w ha hb hc h)
  obtain ⟨q, hq⟩ : ∃ q, a * b * c = q := ⟨_, rfl⟩
  rw [hq] at HF ⊢
  clear h hq
  go_enter Tryz.func78, Tryz.ntmps78
  go_wp2_with ((go_at_call 149; (with_reducible refine (HF.out).mono ?_); rintro e w1 ⟨rfl, hb1⟩))
  go_ret2
  exact ⟨rfl, hb1⟩
end Go.Proofs.YtlfbaggcfaenlaaGreat

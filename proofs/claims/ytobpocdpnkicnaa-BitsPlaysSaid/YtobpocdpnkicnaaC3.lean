/- The law BitsSame, walked. -/
import Derived.Test.YtobpocdpnkicnaaC2
import Derived.Test.YtobpocdpnkicnaaA2
namespace Go.Proofs.Ytobpocdpnkicnaa
open Go.RowKit
set_option linter.unusedVariables false
theorem bread_any (K X L : Nat) (s : ByteArray) (low : Bool) (t : Nat) (l : Led) (n : Nat) (w : World) (hn : n ≤ 32) (h : BitsAt w K X L s low t l) (ht : t ≤ 8 * s.size) (hs : s.size ≤ 1000000) : Calls Try.prog 58 #[.pointer (some ⟨K, 0, none⟩), .int .i64 n] w (BRead w K X L s low t l n) := by
  cases low
  · exact bread_false K X L s t l n w hn h ht hs
  · exact bread_true K X L s t l n w hn h ht hs
def BYes (w : World) (K X L : Nat) (s : ByteArray) (low : Bool) (t n : Nat) (l : Led) (v : Int) (e : Ending) (w' : World) : Prop :=
  e = .returned (.tuple #[.int .i64 v, .bool true]) ∧ BitsAt w' K X L s low (t + n) (l.adv (((t + n + 7) / 8 - (t + 7) / 8 : Nat) : Int)) ∧ Chg (three K X L) w w'
theorem bread_at (K X L : Nat) (s : ByteArray) (low : Bool) (t : Nat) (l : Led) (n : Nat) (z v : Int) (w : World) (hz : z = n) (hn : n ≤ 32) (h : BitsAt w K X L s low t l) (ht : t + n ≤ 8 * s.size) (hs : s.size ≤ 1000000) (hv : joinK s low t n = v) : Calls Try.prog 58 #[.pointer (some ⟨K, 0, none⟩), .int .i64 z] w (BYes w K X L s low t n l v) := by
  subst hz hv
  refine (bread_any K X L s low t l n w hn h (by omega) hs).mono fun e w' hh => ?_
  rcases hh with ⟨_, h1, h2, h3⟩ | ⟨h1, _⟩
  · exact ⟨h1, h2, h3⟩
  · omega
theorem chg_three {W w w' : World} {K X L : Nat} (hW : Below W.heap.size W w) (h : Chg (three K X L) w w') (h1 : W.heap.size ≤ K) (h2 : W.heap.size ≤ X) (h3 : W.heap.size ≤ L) : Below W.heap.size W w' :=
  bchg hW h hW.size (fun k hk => by rcases hk with rfl | rfl | rfl; · exact h1
                                    · exact h2
                                    · exact h3)
def b1e : ByteArray := ⟨#[30]⟩
theorem jk1 : joinK b1e false 0 4 = 1 := by decide +kernel
theorem jk2 : joinK b1e false (0 + 4) 4 = 14 := by decide +kernel
def Yes6 (w : World) (e : Ending) (w' : World) : Prop := e = .returned (.bool true) ∧ Below w.heap.size w w'
theorem lnew_led (k : Int) (w : World) (hk : k = 9 ∨ k = 10 ∨ k = 100 ∨ k = 1000) : Calls Try.prog 40 #[.agg #[.int .i64 0, .int .i64 0, .int .i64 0, .int .i64 k]] w fun e w' =>
      ∃ L, e = .returned (.pointer (some ⟨L, 0, none⟩)) ∧ (LedAt w' L (Led.new 0 0 0 k) ∧ w.heap.size ≤ L ∧ Below w.heap.size w w') :=
  (lnew_k k w hk).mono fun e w' ⟨L, h1, h2, h3, h4⟩ => ⟨L, h1, h2, h3, chg_none h4⟩
theorem snew_b (L : Nat) (s : ByteArray) (l : Led) (w : World) (hs : s.size ≤ 9223372036854775807) (hL : LedAt w L l) : Calls Try.prog 41 #[.pointer (some ⟨L, 0, none⟩), .string s] w fun e w' =>
      ∃ X, e = .returned (.tuple #[.pointer (some ⟨X, 0, none⟩), .int .i64 0]) ∧ Pair w' X ⟨L, s, 0, s.size, 0⟩ l ∧ w.heap.size ≤ X ∧ Below w.heap.size w w' :=
  (snew_at L s l w hs hL).mono fun e w' ⟨X, h1, h2, h3, h4⟩ => ⟨X, h1, h2, h3, chg_none h4⟩
theorem bnew_b (X L : Nat) (s : ByteArray) (low : Bool) (l : Led) (w : World) (h : Pair w X ⟨L, s, 0, s.size, 0⟩ l) (hb : l.br = false) (he : l.st + s.size ≤ l.mx) : Calls Try.prog 57 #[.pointer (some ⟨X, 0, none⟩), .bool low] w fun e w' =>
      ∃ K, e = .returned (.tuple #[.pointer (some ⟨K, 0, none⟩), .int .i64 0]) ∧ BitsAt w' K X L s low 0 l ∧ w.heap.size ≤ K ∧ Below w.heap.size w w' :=
  (bnew_any X L s low l w h hb he).mono fun e w' ⟨K, h1, h2, h3, h4⟩ => ⟨K, h1, h2, h3, chg_none h4⟩
theorem awake6 (w : World) : Calls Try.prog 56 #[] w (Yes6 w) := by
  go_enter Try.func56, Try.ntmps56
  go_wp2_with (first
    | (go_at_call 40; (with_reducible refine (lnew_led 9 _ (by decide)).mono ?_); rintro e w1 ⟨L, rfl, hL, hLs, hC1⟩)
    | (go_at_call 41; (with_reducible refine (snew_b _ _ _ _ (by decide) hL).mono ?_); rintro e w2 ⟨X, rfl, hP, hXs, hC2⟩))
  have hPb : Pair w2 X ⟨L, b1e, 0, b1e.size, 0⟩ (Led.new 0 0 0 9) := hP
  refine (bnew_b X L b1e false _ _ hPb (by rfl) (by decide)).mono ?_
  rintro e w3 ⟨K, rfl, hB, hKs, hC3⟩
  have B3 := Lib.hid ((hC1.trans (hC2.mono hC1.size)).trans (hC3.mono (Nat.le_trans hC1.size hC2.size)))
  have hXW : w.heap.size ≤ X := Nat.le_trans hC1.size hXs
  have hKW : w.heap.size ≤ K := Nat.le_trans (Nat.le_trans hC1.size hC2.size) hKs
  have HB := Lib.hid hB
  clear hB hC1 hC2 hC3 hL hP hPb hKs hXs
  go_wp2_with fail
  refine (bread_at K X L b1e false 0 _ 4 _ 1 _ rfl (by decide) HB.out (by decide) (by decide) jk1).mono ?_
  rintro e w4 ⟨rfl, hB4, hC4⟩
  have HB4 := Lib.hid hB4
  have B4 := Lib.hid (chg_three B3.out hC4 hKW hXW hLs)
  clear hB4 hC4
  go_wp2_with fail
  refine (bread_at K X L b1e false (0 + 4) _ 4 _ 14 _ rfl (by decide) HB4.out (by decide) (by decide) jk2).mono ?_
  rintro e w5 ⟨rfl, hB5, hC5⟩
  have B5 := Lib.hid (chg_three B4.out hC5 hKW hXW hLs)
  clear hB5 hC5
  go_wp2_with fail
  go_ret
  exact ⟨rfl, B5.out⟩
theorem BitsAt.lt {w : World} {K X L : Nat} {s : ByteArray} {low : Bool} {t : Nat} {l : Led} (h : BitsAt w K X L s low t l) : K < w.heap.size ∧ X < w.heap.size ∧ L < w.heap.size := by
  obtain ⟨now, ho, -⟩ := h.obj
  exact ⟨ho.lt, h.pair.src.lt, h.pair.led.lt⟩
theorem BitsAt.chg {S : Nat → Prop} {w w' : World} {K X L : Nat} {s : ByteArray} {low : Bool} {t : Nat} {l : Led} (h : BitsAt w K X L s low t l) (hc : Chg S w w') (h1 : ¬ S K) (h2 : ¬ S X) (h3 : ¬ S L) : BitsAt w' K X L s low t l := by
  obtain ⟨now, ho, hn⟩ := h.obj
  exact ⟨⟨now, hc.obj ho h1, hn⟩, ⟨h.pair.src.chg hc h2, h.pair.led.chg hc h3⟩, h.nx, h.nl, h.br, h.enough⟩
theorem BitsAt.below {B : Nat} {w w' : World} {K X L : Nat} {s : ByteArray} {low : Bool} {t : Nat} {l : Led} (h : BitsAt w K X L s low t l) (hb : Below B w w') (h1 : K < B) (h2 : X < B) (h3 : L < B) : BitsAt w' K X L s low t l := by
  obtain ⟨now, ho, hn⟩ := h.obj
  exact ⟨⟨now, ho.below hb h1, hn⟩, ⟨⟨h.pair.src.obj.below hb h2, h.pair.src.ok, h.pair.src.ne⟩, ⟨h.pair.led.obj.below hb h3, h.pair.led.ok⟩⟩, h.nx, h.nl, h.br, h.enough⟩
theorem owns_chg {S : Nat → Prop} {w w' : World} {base e size n : Nat} {v : Value} {xs : List Value} (h : w.ownsRow base e size v n xs) (hc : Chg S w w') (hS : ∀ k, S k → k < base) : w'.ownsRow base e size v n xs := by
  obtain ⟨h1, h2⟩ := h
  refine ⟨h1, ?_⟩
  rcases h2 with h2 | ⟨g, cap, cur, hv, hb, hg, rest⟩
  · exact Or.inl h2
  · refine Or.inr ⟨g, cap, cur, hv, hb, ?_, rest⟩
    rw [hc.block g (Array.getElem?_eq_some_iff.1 hg).1 (fun hs => by have := hS g hs; omega)]; exact hg
theorem ints_of_owns {w : World} {base e n : Nat} {v : Value} {xs : List Int} (h : w.ownsRow base e 1 v n (xs.map (Value.int .i64))) : Ints w v xs := by
  have hl := owns_len h
  simp at hl
  by_cases h0 : n = 0
  · subst h0
    obtain ⟨a, cap, rfl⟩ := owns_shape h
    exact Or.inl ⟨a, cap, rfl, List.length_eq_zero_iff.1 hl⟩
  · obtain ⟨g, cap, rfl, h1, h2, h3, h4⟩ := owns_form h (by omega)
    refine Or.inr ⟨g, 0, cap, by rw [hl], h2, fun i hi => ?_⟩
    rw [Nat.zero_add]
    exact owns_cell h i _ (by rw [List.getElem?_map, List.getElem?_eq_getElem hi, List.getD_eq_getElem?_getD, List.getElem?_eq_getElem hi]; rfl)
theorem joinK_one (s : ByteArray) (low : Bool) (t : Nat) : joinK s low t 1 = bitAt s low t := by
  rw [joinK, joinK]
  cases low
  · rw [if_neg (by decide)]; simp
  · rw [if_pos rfl]; simp
theorem bitsList_bd (s : ByteArray) (low : Bool) (t n i : Nat) : 0 ≤ (bitsList s low t n).getD i 0 ∧ (bitsList s low t n).getD i 0 ≤ 1 := by
  by_cases hi : i < n
  · rw [bitsList_get _ _ _ _ _ hi]; exact bitAt_bd _ _ _
  · rw [List.getD_eq_getElem?_getD, List.getElem?_eq_none (by rw [bitsList_len]; omega)]; simp
theorem Pair.below {B : Nat} {w w' : World} {X : Nat} {x : Sr} {l : Led} (h : Pair w X x l) (hb : Below B w w') (h1 : X < B) (h2 : x.L < B) : Pair w' X x l := ⟨⟨h.src.obj.below hb h1, h.src.ok, h.src.ne⟩, ⟨h.led.obj.below hb h2, h.led.ok⟩⟩
/-! ### the law -/
theorem same_long (s : ByteArray) (low : Bool) (n : Int) (w : World) (h : 100 < s.size) (hs : s.size ≤ 9223372036854775807) : Calls Try.prog 12 #[.string s, .bool low, .int .u8 n] w (Yes6 w) := by
  go_enter Try.func12, Try.ntmps12
  go_wp2_with (go_at_call 56; (with_reducible refine (awake6 _).mono ?_); rintro e w1 ⟨rfl, hb⟩)
  go_ret
  exact ⟨rfl, hb⟩
theorem same_few (s : ByteArray) (low : Bool) (n : Nat) (w : World) (h : s.size ≤ 100) (hn : n ≤ 255) (hk : 8 * s.size < n % 33) : Calls Try.prog 12 #[.string s, .bool low, .int .u8 n] w (Yes6 w) := by
  have hk' : 8 * (s.size : Int) < (n : Int) % 33 := by omega
  go_enter Try.func12, Try.ntmps12
  go_wp2_with (go_at_call 56; (with_reducible refine (awake6 _).mono ?_); rintro e w1 ⟨rfl, hb⟩)
  go_ret
  exact ⟨rfl, hb⟩
set_option maxHeartbeats 1000000 in
theorem same_main (s : ByteArray) (low : Bool) (n : Nat) (w : World) (h : s.size ≤ 100) (hn : n ≤ 255) (hk : n % 33 ≤ 8 * s.size) : Calls Try.prog 12 #[.string s, .bool low, .int .u8 n] w (Yes6 w) := by
  obtain ⟨k, hkk⟩ : ∃ k, n % 33 = k := ⟨_, rfl⟩
  have EK : (n : Int) % 33 = (k : Int) := by omega
  have hk32 : k ≤ 32 := by omega
  have hk8 : k ≤ 8 * s.size := by omega
  have G0 : decide ((s.size : Int) > 100) = false := by rw [decide_eq_false_iff_not]; omega
  have G1 : decide ((k : Int) > 8 * (s.size : Int)) = false := by rw [decide_eq_false_iff_not]; omega
  clear hkk hk
  go_enter Try.func12, Try.ntmps12
  go_wp2_with fail
  refine (lnew_led 1000 _ (by decide)).mono ?_
  rintro e w1 ⟨L1, rfl, hL1, hs1, hC1⟩
  go_wp2_with fail
  refine (snew_b L1 s _ _ (by omega) hL1).mono ?_
  rintro e w2 ⟨X1, rfl, hP1, hs2, hC2⟩
  have l0 := hL1.lt
  have l1 := hP1.led.lt
  have l2 := hP1.src.lt
  have HP1 := Lib.hid hP1
  have HC1 := Lib.hid hC1
  have HC2 := Lib.hid hC2
  clear hL1 hP1 hC1 hC2
  go_wp2_with fail
  refine (lnew_led 1000 _ (by decide)).mono ?_
  rintro e w3 ⟨L2, rfl, hL2, hs3, hC3⟩
  go_wp2_with fail
  refine (snew_b L2 s _ _ (by omega) hL2).mono ?_
  rintro e w4 ⟨X2, rfl, hP2, hs4, hC4⟩
  have n1 : L1 < X1 := by omega
  have l3 := hL2.lt
  have n3 : L2 < X2 := by omega
  have l4 := hP2.src.lt
  have e9 : (Led.new 0 0 0 1000).st + (s.size : Int) ≤ (Led.new 0 0 0 1000).mx := by show (0 : Int) + s.size ≤ 1000; omega
  have z1 := HC1.out.size
  have z2 := HC2.out.size
  have z3 := hC3.size
  have z4 := hC4.size
  have HQ1 := Lib.hid ((HP1.out.below hC3 l2 l1).below hC4 (by omega) (by show L1 < _; omega))
  have B4 := Lib.hid (((HC1.out.trans (HC2.out.mono z1)).trans (hC3.mono (by omega))).trans (hC4.mono (by omega)))
  have HP2 := Lib.hid hP2
  clear hP2 hL2 hC3 hC4 HP1 HC1 HC2
  go_wp2_with fail
  refine (bnew_b X1 L1 s low _ _ HQ1.out (by rfl) e9).mono ?_
  rintro e w5 ⟨K1, rfl, hA5, hs5, hC5⟩
  have z5 := hC5.size
  have HA5 := Lib.hid hA5
  have l5 := hA5.lt.1
  have HQ2 := Lib.hid (HP2.out.below hC5 l4 (by show L2 < _; omega))
  have B5 := Lib.hid (B4.out.trans (hC5.mono (by omega)))
  clear hA5 hC5 HP2 HQ1
  go_wp2_with fail
  refine (bnew_b X2 L2 s low _ _ HQ2.out (by rfl) e9).mono ?_
  rintro e w6 ⟨K2, rfl, hA6, hs6, hC6⟩
  have z6 := hC6.size
  have l6 := hA6.lt.1
  have HA6 := Lib.hid (HA5.out.below hC6 l5 (by omega) (by omega))
  have HD6 := Lib.hid hA6
  have B6 := Lib.hid (B5.out.trans (hC6.mono (by omega)))
  clear hA6 hC6 HA5 HQ2 e9
  obtain ⟨V, hV⟩ : ∃ V, joinK s low 0 k = V := ⟨_, rfl⟩
  have HV := Lib.hid hV
  go_wp2_with fail
  refine (bread_at K1 X1 L1 s low 0 _ k _ V _ rfl hk32 HA6.out (by omega) (by omega) hV).mono ?_
  rintro e w7 ⟨rfl, hA7, hC7⟩
  have HD7 := Lib.hid (HD6.out.chg hC7 (by unfold three; omega) (by unfold three; omega) (by unfold three; omega))
  have B7 := Lib.hid (chg_three B6.out hC7 (by omega) (by omega) (by omega))
  have z7 := hC7.size
  clear hA7 hC7 hV HD6 HA6
  go_wp2_with fail
  go_loopw [18, 19, 20, 81] (fun v q1 q2 c wr => ∃ i : Nat, i ≤ k ∧ c = .int .i64 i ∧ wr.ownsRow w7.heap.size 3 1 v (bitsList s low 0 i).length ((bitsList s low 0 i).map (.int .i64)) ∧ w7.heap.size ≤ wr.heap.size ∧ BitsAt wr K2 X2 L2 s low i ((Led.new 0 0 0 1000).adv (((i + 7) / 8 : Nat) : Int)) ∧ Below w.heap.size w wr) (fun _ _ _ c _ => k - (intOf c).toNat)
  case atStart => exact ⟨0, by omega, rfl, World.ownsRow_nil _ _ _ _, Nat.le_refl _, by have := HD7.out; simpa [Led.adv] using this, B7.out⟩
  case round =>
    obtain ⟨i, hi, rfl, hown, hsz, hB, hb⟩ := hrel
    have hOwn := Lib.hid hown
    have HB := Lib.hid hB
    have Hb := Lib.hid hb
    have hbl : (bitsList s low 0 i).length ≤ 32 := by rw [bitsList_len]; omega
    clear hown hB hb
    by_cases hlt : i < k
    · obtain ⟨b, hbv⟩ : ∃ b, bitAt s low i = b := ⟨_, rfl⟩
      have HR := Lib.hid (bread_at K2 X2 L2 s low i _ 1 1 b wr rfl (by decide) HB.out (by omega) (by omega) (by rw [joinK_one, hbv]))
      have HBV := Lib.hid hbv
      clear hbv
      go_wp2_with (first
        | ((go_at_call 58; (with_reducible refine (HR.out).mono ?_); rintro e w8 ⟨rfl, hB8, hC8⟩); have hO8 := Lib.hid (owns_chg hOwn.out hC8 (by intro k hk; rcases hk with rfl | rfl | rfl <;> omega)); have hz8 : w7.heap.size ≤ w8.heap.size := (Nat.le_trans hsz hC8.size); have HB8 := Lib.hid hB8; have b8 := Lib.hid (chg_three Hb.out hC8 (by omega) (by omega) (by omega)); clear hB8 hC8)
        | (at_builtin; refine app1 rfl (.tmp 90) (.tmp 92) 22 rfl w7.heap.size 3 (.int .i64 0) 8 Try.underlying22 (by kernel_rfl) rfl _ _ _ rfl hO8.out _ rfl _ rfl (by omega) (by unfold maxLen; omega) hz8 ?_; intro v' w9 hown1 hB1 hz1; have O1 := Lib.hid hown1; have B1 := Lib.hid hB1; clear hown1 hB1))
      go_roundw
      case rel =>
        refine ⟨i + 1, by omega, by go_num, owns_eq O1.out (by simp [bitsList]) (by rw [bitsList, Nat.zero_add, HBV.out, List.map_append]; rfl), hz1, ?_, bthen (B1.out w8 (Below.refl _ _)) b8.out (by omega)⟩
        have h9 := (HB8.out).below (B1.out w8 (Below.refl _ _)) (by omega) (by omega) (by omega)
        have e9 : ((Led.new 0 0 0 1000).adv (((i + 7) / 8 : Nat) : Int)).adv (((i + 1 + 7) / 8 - (i + 7) / 8 : Nat) : Int) = (Led.new 0 0 0 1000).adv (((i + 1 + 7) / 8 : Nat) : Int) := by
          simp only [Led.adv]; congr 1; omega
        rw [e9] at h9; exact h9
      case measure => simp [intOf]; omega
    · have hik : i = k := by omega
      subst hik
      have HI := Lib.hid (fun w0 (hw : w0 = wr) => (show Ints w0 u18 (bitsList s low 0 i) by rw [hw]; exact ints_of_owns hOwn.out))
      have HN := Lib.hid ((number_any (bitsList s low 0 i) u18 low wr (HI.out wr rfl) (by omega) (bitsList_bd s low 0 i)).mono (R' := fun e w' => e = .returned (.int .i64 V) ∧ wr = w') fun e w' hh => by rw [numI_bits, HV.out] at hh; exact hh)
      go_wp2_with (first
        | (go_at_call 59; (with_reducible refine (HN.out).mono ?_); rintro e w8 ⟨rfl, rfl⟩)
        | (go_at_call 56; (with_reducible refine (awake6 _).mono ?_); rintro e w9 ⟨rfl, hb9⟩))
      go_ret
      exact ⟨rfl, bthen hb9 Hb.out Hb.out.size⟩
theorem same_law (s : ByteArray) (low : Bool) (n : Int) (hs : s.size ≤ maxLen) (hn : (Lit.int .u8 n).wf = true) (w : World) : Calls Try.prog 12 #[.string s, .bool low, .int .u8 n] w fun e w' => e = .returned (.bool true) ∧ Below w.heap.size w w' := by
  unfold maxLen at hs
  have h : 0 ≤ n ∧ n ≤ 255 := by simpa [Lit.wf, IntKind.min, IntKind.max, IntKind.signed, IntKind.bits] using hn
  obtain ⟨n, rfl⟩ := Int.eq_ofNat_of_zero_le h.1
  by_cases h1 : 100 < s.size
  · exact same_long s low _ w h1 (by omega)
  · by_cases h2 : 8 * s.size < n % 33
    · exact same_few s low n w (by omega) (by omega) h2
    · exact same_main s low n w (by omega) (by omega) (by omega)
end Go.Proofs.Ytobpocdpnkicnaa

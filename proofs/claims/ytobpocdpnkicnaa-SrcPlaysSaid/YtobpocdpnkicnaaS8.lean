/- The law SrcWindows, walked. -/
import Derived.Test.YtobpocdpnkicnaaS7
namespace Go.Proofs.Ytobpocdpnkicnaa
open Go.RowKit
set_option linter.unusedVariables false
def Yes5 (w : World) (e : Ending) (w' : World) : Prop := e = .returned (.bool true) ∧ Below w.heap.size w w'
/-- A ledger and a source over a text, made anew. -/
theorem SrcAt.mk' {w : World} {X L : Nat} {s : ByteArray} {b e p : Nat} (h : Obj1 w X (Sr.cells ⟨L, s, b, e, p⟩) 148) (h1 : b ≤ p) (h2 : p ≤ e) (h3 : e ≤ s.size) (h4 : s.size ≤ 9223372036854775807) (hn : X ≠ L) : SrcAt w X ⟨L, s, b, e, p⟩ := ⟨h, ⟨h1, h2, h3, h4⟩, hn⟩
def Fresh (X : Nat) (w w' : World) : Prop := w.heap.size ≤ X ∧ X < w'.heap.size
theorem chg_none {w w' : World} (h : Chg (fun _ => False) w w') : Below w.heap.size w w' := h.below (Nat.le_refl _) (fun _ h => h.elim)
theorem chg_two {W w w' : World} {X : Nat} {x : Sr} (hW : Below W.heap.size W w) (h : Chg (two X x) w w') (h1 : W.heap.size ≤ X) (h2 : W.heap.size ≤ x.L) : Below W.heap.size W w' :=
  bchg hW h hW.size (fun k hk => by rcases hk with rfl | rfl; · exact h1
                                    · exact h2)
def b123 : ByteArray := ⟨#[1, 2, 3]⟩
def l10 (k : Int) : Led := { Led.new 0 0 0 10 with st := k }
theorem ex1 (L : Nat) : Sr.next ⟨L, b123, 0, 3, 0⟩ (l10 0) 2 = ((⟨L, b123, 0, 3, 2⟩, l10 1), (⟨#[1, 2]⟩, true)) := rfl
theorem ex2 (L : Nat) : Sr.next ⟨L, b123, 0, 3, 2⟩ (l10 1) 2 = ((⟨L, b123, 0, 3, 2⟩, l10 2), (ByteArray.empty, false)) := rfl
theorem ex3 (L : Nat) : Sr.next ⟨L, b123, 0, 3, 2⟩ (l10 2) 1 = ((⟨L, b123, 0, 3, 3⟩, l10 3), (⟨#[3]⟩, true)) := rfl
theorem num12 : numB ⟨#[1, 2]⟩ true = 513 := by decide +kernel
theorem num0 : numB ByteArray.empty true = 0 := by decide +kernel
theorem num3 : numB ⟨#[3]⟩ true = 3 := by decide +kernel
theorem num_at {w : World} {X : Nat} {x y : Sr} {l m : Led} {n : Int} {low ok : Bool} {s : ByteArray} {v : Int} {e : Ending} {w' : World} (h : NumOf w X x l n low e w') (hr : x.next l n = ((y, m), (s, ok))) (hv : numB s low = v) : NumPost w X x y m v ok e w' := by
  unfold NumOf at h; rw [hr] at h; subst hv; exact h
theorem lnew_k (k : Int) (w : World) (hk : k = 9 ∨ k = 10 ∨ k = 100 ∨ k = 1000) : Calls Try.prog 40 #[.agg #[.int .i64 0, .int .i64 0, .int .i64 0, .int .i64 k]] w fun e w' =>
      ∃ L, e = .returned (.pointer (some ⟨L, 0, none⟩)) ∧ LedAt w' L (Led.new 0 0 0 k) ∧ w.heap.size ≤ L ∧ Chg (fun _ => False) w w' := lnew_any 0 0 0 k w (by decide) (by omega)
theorem awake5 (w : World) : Calls Try.prog 39 #[] w (Yes5 w) := by
  go_enter Try.func39, Try.ntmps39
  go_wp2_with (first
    | (go_at_call 40; (with_reducible refine (lnew_k 10 _ (by decide)).mono ?_); rintro e w1 ⟨L, rfl, hL, hLs, hC1⟩)
    | (go_at_call 41; (with_reducible refine (snew_any _ _ _ (by decide) hL.lt).mono ?_); rintro e w2 ⟨X, rfl, hX, hXs, hC2⟩))
  have hl := hL.lt
  have P2 : Pair w2 X ⟨L, b123, 0, 3, 0⟩ (l10 0) := ⟨hX, hL.chg hC2 (fun h => h)⟩
  have HP2 := Lib.hid P2
  have B2 := Lib.hid ((chg_none hC1).trans ((chg_none hC2).mono hC1.size))
  have hXW : w.heap.size ≤ X := Nat.le_trans hC1.size hXs
  clear hX hL hC1 hC2 P2 hXs hl
  go_wp2_with fail
  refine (le16_any X _ _ _ HP2.out).mono ?_
  intro e w3 h3
  obtain ⟨rfl, P3, C3⟩ := num_at h3 (ex1 L) num12
  have HP3 := Lib.hid P3
  have B3 := Lib.hid (chg_two B2.out C3 hXW hLs)
  clear h3 P3 C3
  go_wp2_with fail
  refine (le16_any X _ _ _ HP3.out).mono ?_
  intro e w4 h4
  obtain ⟨rfl, P4, C4⟩ := num_at h4 (ex2 L) num0
  have HP4 := Lib.hid P4
  have B4 := Lib.hid (chg_two B3.out C4 hXW hLs)
  clear h4 P4 C4
  go_wp2_with fail
  refine (u8_any X _ _ _ HP4.out).mono ?_
  intro e w5 h5
  obtain ⟨rfl, P5, C5⟩ := num_at h5 (ex3 L) num3
  have B5 := Lib.hid (chg_two B4.out C5 hXW hLs)
  clear h5 P5 C5
  go_wp2_with fail
  go_ret
  exact ⟨rfl, B5.out⟩
/-! ### SrcWindows -/
theorem snew_at (L : Nat) (s : ByteArray) (l : Led) (w : World) (hs : s.size ≤ 9223372036854775807) (hL : LedAt w L l) : Calls Try.prog 41 #[.pointer (some ⟨L, 0, none⟩), .string s] w fun e w' =>
      ∃ X, e = .returned (.tuple #[.pointer (some ⟨X, 0, none⟩), .int .i64 0]) ∧ Pair w' X ⟨L, s, 0, s.size, 0⟩ l ∧ w.heap.size ≤ X ∧ Chg (fun _ => False) w w' :=
  (snew_any L s w hs hL.lt).mono fun e w' ⟨X, h1, h2, h3, h4⟩ => ⟨X, h1, ⟨h2, hL.chg h4 (fun h => h)⟩, h3, h4⟩
theorem window_at (X : Nat) (x : Sr) (l : Led) (a n : Nat) (a' n' : Int) (w : World) (ha : a' = a) (hn' : n' = n) (h : Pair w X x l) (hn : x.winB a n) : Calls Try.prog 42 #[.pointer (some ⟨X, 0, none⟩), .int .i64 a', .int .i64 n'] w fun e w' =>
      ∃ Y, e = .returned (.tuple #[.pointer (some ⟨Y, 0, none⟩), .bool true]) ∧ Pair w' Y ⟨x.L, x.s, a, a + n, a⟩ l ∧ w.heap.size ≤ Y ∧ Chg (fun _ => False) w w' := by
  subst ha hn'
  have hl := h.led.lt
  have hok := h.src.ok
  refine (window_yes X x a n w h.src hn).mono fun e w' ⟨Y, h1, h2, h3, h4⟩ => ⟨Y, h1, ⟨SrcAt.mk' h2 (Nat.le_refl _) (by omega) ?_ hok.sz (by omega), h.led.chg h4 (fun h => h)⟩, h3, h4⟩
  have := hok.es
  unfold Sr.winB at hn; omega
theorem windows_small (s : ByteArray) (a b c d : Int) (w : World) (h : 300 < s.size ∨ s.size = 0) (hs : s.size ≤ 9223372036854775807) : Calls Try.prog 10 #[.string s, .int .u8 a, .int .u8 b, .int .u8 c, .int .u8 d] w (Yes5 w) := by
  rcases h with h | h
  · go_enter Try.func10, Try.ntmps10
    go_wp2_with (go_at_call 39; (with_reducible refine (awake5 _).mono ?_); rintro e w1 ⟨rfl, hb⟩)
    go_ret
    exact ⟨rfl, hb⟩
  · have G0 : decide ((s.size : Int) > 300) = false := by rw [decide_eq_false_iff_not]; omega
    have G1 : ((s.size : Int) == 0) = true := by rw [beq_iff_eq]; omega
    clear h hs
    go_enter Try.func10, Try.ntmps10
    go_wp2_with (go_at_call 39; (with_reducible refine (awake5 _).mono ?_); rintro e w1 ⟨rfl, hb⟩)
    go_ret
    exact ⟨rfl, hb⟩
theorem windows_walk (s : ByteArray) (a b c d : Int) (hs : s.size ≤ maxLen) (ha : (Lit.int .u8 a).wf = true) (hb : (Lit.int .u8 b).wf = true) (hc : (Lit.int .u8 c).wf = true) (hd : (Lit.int .u8 d).wf = true) (w : World) :
    Calls Try.prog 10 #[.string s, .int .u8 a, .int .u8 b, .int .u8 c, .int .u8 d] w (Yes5 w) := by
  unfold maxLen at hs
  by_cases hsm : 300 < s.size ∨ s.size = 0
  · exact windows_small s a b c d w hsm (by omega)
  have hn0 : 0 < s.size := by omega
  have hn1 : s.size ≤ 300 := by omega
  clear hsm hs
  have wfu : ∀ x : Int, (Lit.int .u8 x).wf = true → 0 ≤ x ∧ x ≤ 255 := fun x h => by simpa [Lit.wf, IntKind.min, IntKind.max, IntKind.signed, IntKind.bits] using h
  obtain ⟨a0, a1⟩ := wfu a ha
  obtain ⟨b0, b1⟩ := wfu b hb
  obtain ⟨c0, c1⟩ := wfu c hc
  obtain ⟨d0, d1⟩ := wfu d hd
  clear ha hb hc hd wfu
  obtain ⟨a, rfl⟩ := Int.eq_ofNat_of_zero_le a0
  obtain ⟨b, rfl⟩ := Int.eq_ofNat_of_zero_le b0
  obtain ⟨c, rfl⟩ := Int.eq_ofNat_of_zero_le c0
  obtain ⟨d, rfl⟩ := Int.eq_ofNat_of_zero_le d0
  obtain ⟨at', hat⟩ : ∃ x, a % s.size = x := ⟨_, rfl⟩
  have t1 : at' < s.size := by rw [← hat]; exact Nat.mod_lt _ hn0
  obtain ⟨n, hn⟩ : ∃ x, b % (s.size - at' + 1) = x := ⟨_, rfl⟩
  have t2 : n < s.size - at' + 1 := by rw [← hn]; exact Nat.mod_lt _ (by omega)
  obtain ⟨q, hq⟩ : ∃ x, c % (n + 1) = x := ⟨_, rfl⟩
  have t3 : q < n + 1 := by rw [← hq]; exact Nat.mod_lt _ (by omega)
  obtain ⟨m, hm⟩ : ∃ x, d % (at' + n - (at' + q) + 1) = x := ⟨_, rfl⟩
  have t4 : m < at' + n - (at' + q) + 1 := by rw [← hm]; exact Nat.mod_lt _ (by omega)
  have EA : (a : Int) % (s.size : Int) = (at' : Int) := by rw [← hat]; simp
  have EN : (b : Int) % ((s.size : Int) - at' + 1) = (n : Int) := by
    have h9 : ((s.size - at' + 1 : Nat) : Int) = (s.size : Int) - at' + 1 := by omega
    rw [← hn, Int.natCast_emod, h9]
  have EQ : (c : Int) % ((n : Int) + 1) = (q : Int) := by
    have h9 : ((n + 1 : Nat) : Int) = (n : Int) + 1 := by omega
    rw [← hq, Int.natCast_emod, h9]
  have EM : (d : Int) % ((at' : Int) + n - (at' + q) + 1) = (m : Int) := by
    have h9 : ((at' + n - (at' + q) + 1 : Nat) : Int) = (at' : Int) + n - (at' + q) + 1 := by omega
    rw [← hm, Int.natCast_emod, h9]
  clear hat hn hq hm
  have GN : decide ((s.size : Int) > 300) = false := by rw [decide_eq_false_iff_not]; omega
  have GZ : ((s.size : Int) == 0) = false := by rw [beq_eq_false_iff_ne]; omega
  have GZ' : ¬ ((s.size : Int) = 0) := by omega
  go_enter Try.func10, Try.ntmps10
  go_wp2_with (first
    | (go_at_call 40; (with_reducible refine (lnew_k 1000 _ (by decide)).mono ?_); rintro e w1 ⟨L, rfl, hL, hLs, hC1⟩)
    | (go_at_call 41; (with_reducible refine (snew_at _ _ _ _ (by omega) hL).mono ?_); rintro e w2 ⟨X, rfl, hP, hXs, hC2⟩))
  have HP := Lib.hid hP
  have B2 := Lib.hid ((chg_none hC1).trans ((chg_none hC2).mono hC1.size))
  have hXW : w.heap.size ≤ X := Nat.le_trans hC1.size hXs
  clear hP hC1 hC2 hL hXs
  refine (window_at X _ _ at' n _ _ _ (by first | rfl | omega) (by first | rfl | omega) HP.out ?_).mono ?_
  · show Sr.winB _ _ _; unfold Sr.winB; simp only; omega
  rintro e w3 ⟨Y, rfl, hPY, hYs, hC3⟩
  have HPX := Lib.hid (⟨HP.out.src.chg hC3 (fun h => h), HP.out.led.chg hC3 (fun h => h)⟩ : Pair w3 X _ _)
  have HPY := Lib.hid hPY
  have B3 := Lib.hid (B2.out.trans ((chg_none hC3).mono B2.out.size))
  have hYX : X < Y := Nat.lt_of_lt_of_le HP.out.src.lt hYs
  have hYW : w.heap.size ≤ Y := by omega
  have hYs' := Lib.hid hYs
  clear hPY hC3 HP hYs
  go_wp2_with fail
  refine (window_at Y _ _ (at' + q) m _ _ _ (by first | rfl | omega) (by first | rfl | omega) HPY.out ?_).mono ?_
  · show Sr.winB _ _ _; unfold Sr.winB; simp only; omega
  rintro e w4 ⟨Z, rfl, hPZ, hZs, hC4⟩
  have HPX4 := Lib.hid (HPX.out.src.chg hC4 (fun h => h))
  have HPY4 := Lib.hid (HPY.out.src.chg hC4 (fun h => h))
  have B4 := Lib.hid (B3.out.trans ((chg_none hC4).mono B3.out.size))
  have hZY : Y < Z := Nat.lt_of_lt_of_le HPY.out.src.lt hZs
  have hLX : L ≠ X := fun e => HPX.out.src.ne e.symm
  have hLY : L ≠ Y := fun e => HPY.out.src.ne e.symm
  have HT := Lib.hid (take_any Z _ _ m w4 hPZ)
  have hne : Z ≠ L := hPZ.src.ne
  have hnx : Sr.next ⟨L, s, at' + q, at' + q + m, at' + q⟩ (Led.new 0 0 0 1000) m = ((⟨L, s, at' + q, at' + q + m, at' + q + m⟩, { Led.new 0 0 0 1000 with st := 1 }), (s.extract (at' + q) (at' + q + m), true)) := by
    unfold Sr.next
    rw [if_pos ⟨rfl, by omega, by simp only; omega⟩]; rfl
  clear HPX HPY hPZ hC4 hZs
  go_wp2_with fail
  refine (HT.out).mono ?_
  intro e w5 h5
  have h5 : NextPost w4 Z ⟨L, s, at' + q, at' + q + m, at' + q⟩ (Sr.next ⟨L, s, at' + q, at' + q + m, at' + q⟩ (Led.new 0 0 0 1000) m) e w5 := h5
  rw [hnx] at h5
  obtain ⟨rfl, P5, C5⟩ := h5
  have HX5 := Lib.hid (HPX4.out.chg C5 (by simp only [not_or]; exact ⟨by omega, fun e => hLX e.symm⟩))
  have HY5 := Lib.hid (HPY4.out.chg C5 (by simp only [not_or]; exact ⟨by omega, fun e => hLY e.symm⟩))
  have HP5 := Lib.hid P5
  have B5 := Lib.hid (chg_two B4.out C5 (by omega) hLs)
  have AX := Lib.hid (fun n => at_any X _ _ (HX5.out.drewN n))
  have AY := Lib.hid (fun n => at_any Y _ _ (HY5.out.drewN n))
  have AZ := Lib.hid (at_any Z _ _ HP5.out.src)
  have LZ := Lib.hid ((left_any Z _ _ HP5.out.src).mono (R' := fun e w' => e = .returned (.int .i64 0) ∧ ∃ k, w5.drewN k = w') fun e w' hh => by simpa using hh)
  have SL := Lib.hid (fun n => (steps_any L _ _ (HP5.out.led.drewN n)).mono (R' := fun e w' => e = .returned (.int .i64 1) ∧ w5.drewN n = w') fun e w' hh => hh)
  clear P5 C5 HPX4 HPY4 hnx HT
  go_wp2_with fail
  refine (AZ.out).mono ?_
  rintro e w6 ⟨rfl, rfl⟩
  go_wp2_with fail
  refine (LZ.out).mono ?_
  rintro e w6 ⟨rfl, k, rfl⟩
  go_wp2_with fail
  refine (AX.out _).mono ?_
  rintro e w6 ⟨rfl, rfl⟩
  go_wp2_with fail
  refine (AY.out _).mono ?_
  rintro e w6 ⟨rfl, rfl⟩
  go_wp2_with fail
  refine (SL.out _).mono ?_
  rintro e w6 ⟨rfl, rfl⟩
  go_wp2_with fail
  refine (awake5 _).mono ?_
  rintro e w6 ⟨rfl, hb6⟩
  go_wp2_with fail
  go_ret
  exact ⟨rfl, bthen hb6 (bdrew B5.out k) (by rw [show (w5.drewN k).heap = w5.heap from drewN_heap _ _]; exact B5.out.size)⟩
theorem windows_law (s : ByteArray) (a b c d : Int) (hs : s.size ≤ maxLen) (ha : (Lit.int .u8 a).wf = true) (hb : (Lit.int .u8 b).wf = true) (hc : (Lit.int .u8 c).wf = true) (hd : (Lit.int .u8 d).wf = true) (w : World) :
    Calls Try.prog 10 #[.string s, .int .u8 a, .int .u8 b, .int .u8 c, .int .u8 d] w fun e w' => e = .returned (.bool true) ∧ Below w.heap.size w w' := windows_walk s a b c d hs ha hb hc hd w
end Go.Proofs.Ytobpocdpnkicnaa

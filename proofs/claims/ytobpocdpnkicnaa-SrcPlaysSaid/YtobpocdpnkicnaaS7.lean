/- The source's readers of numbers; windows. -/
import Derived.Test.YtobpocdpnkicnaaS6
namespace Go.Proofs.Ytobpocdpnkicnaa
open Go.RowKit
set_option linter.unusedVariables false
def numB (s : ByteArray) (low : Bool) : Int := if low = true then loK s s.size else hiK s s.size
theorem numB_bd (s : ByteArray) (low : Bool) : 0 ≤ numB s low ∧ numB s low < 2 ^ (8 * s.size) := by
  unfold numB
  cases low
  · exact hiK_bd s _
  · exact loK_bd s _
theorem number_any' (s : ByteArray) (low : Bool) (w : World) (hs : s.size ≤ 4) : Calls Try.prog 108 #[.string s, .bool low] w fun e w' => e = .returned (.int .i64 (numB s low)) ∧ w = w' := by
  cases low
  · exact number_hi' s w hs
  · exact number_lo' s w hs
theorem next_size (x : Sr) (l : Led) (n : Int) (h : 0 ≤ n) : ((x.next l n).2.1.size : Int) ≤ n := by
  unfold Sr.next
  split
  · simp only [ByteArray.size_extract]; omega
  · simpa using h
def NumPost (w : World) (X : Nat) (x y : Sr) (m : Led) (v : Int) (ok : Bool) (e : Ending) (w' : World) : Prop := e = .returned (.tuple #[.int .i64 v, .bool ok]) ∧ Pair w' X y m ∧ Chg (two X x) w w'
abbrev NumOf (w : World) (X : Nat) (x : Sr) (l : Led) (n : Int) (low : Bool) : Ending → World → Prop := NumPost w X x (x.next l n).1.1 (x.next l n).1.2 (numB (x.next l n).2.1 low) (x.next l n).2.2
theorem read_any (X : Nat) (x : Sr) (l : Led) (n : Int) (low : Bool) (w : World) (h : Pair w X x l) (h0 : 0 ≤ n) (h1 : n ≤ 4) : Calls Try.prog 87 #[.pointer (some ⟨X, 0, none⟩), .int .i64 n, .bool low] w (NumOf w X x l n low) := by
  have HN := Lib.hid (next_any X x l n w h)
  have hs := next_size x l n h0
  unfold NumOf
  obtain ⟨⟨⟨y, m⟩, s, ok⟩, hr⟩ : ∃ r, x.next l n = r := ⟨_, rfl⟩
  rw [hr] at HN hs ⊢
  have hs' : s.size ≤ 4 := by simp only at hs; omega
  have HB := Lib.hid (fun w0 => number_any' s low w0 hs')
  clear h hr hs hs' h0 h1
  go_enter Try.func87, Try.ntmps87
  go_wp2_with (first
    | (go_at_call 85; (with_reducible refine (HN.out).mono ?_); rintro e w1 ⟨rfl, hP, hC⟩)
    | (go_at_call 108; (with_reducible refine (HB.out _).mono ?_); rintro e w2 ⟨rfl, rfl⟩))
  go_ret2
  exact ⟨rfl, hP, hC⟩
theorem u8_any (X : Nat) (x : Sr) (l : Led) (w : World) (h : Pair w X x l) : Calls Try.prog 84 #[.pointer (some ⟨X, 0, none⟩)] w (NumOf w X x l 1 true) := by
  have HN := Lib.hid (read_any X x l 1 true w h (by decide) (by decide))
  unfold NumOf at HN ⊢
  obtain ⟨⟨⟨y, m⟩, s, ok⟩, hr⟩ : ∃ r, x.next l 1 = r := ⟨_, rfl⟩
  rw [hr] at HN ⊢
  clear h hr
  go_enter Try.func84, Try.ntmps84
  go_wp2_with (go_at_call 87; (with_reducible refine (HN.out).mono ?_); rintro e w1 ⟨rfl, hP, hC⟩)
  go_ret2
  exact ⟨rfl, hP, hC⟩
theorem le16_any (X : Nat) (x : Sr) (l : Led) (w : World) (h : Pair w X x l) : Calls Try.prog 51 #[.pointer (some ⟨X, 0, none⟩)] w (NumOf w X x l 2 true) := by
  have HN := Lib.hid (read_any X x l 2 true w h (by decide) (by decide))
  unfold NumOf at HN ⊢
  obtain ⟨⟨⟨y, m⟩, s, ok⟩, hr⟩ : ∃ r, x.next l 2 = r := ⟨_, rfl⟩
  rw [hr] at HN ⊢
  clear h hr
  go_enter Try.func51, Try.ntmps51
  go_wp2_with (go_at_call 87; (with_reducible refine (HN.out).mono ?_); rintro e w1 ⟨rfl, hP, hC⟩)
  go_ret2
  exact ⟨rfl, hP, hC⟩
theorem le32_any (X : Nat) (x : Sr) (l : Led) (w : World) (h : Pair w X x l) : Calls Try.prog 47 #[.pointer (some ⟨X, 0, none⟩)] w (NumOf w X x l 4 true) := by
  have HN := Lib.hid (read_any X x l 4 true w h (by decide) (by decide))
  unfold NumOf at HN ⊢
  obtain ⟨⟨⟨y, m⟩, s, ok⟩, hr⟩ : ∃ r, x.next l 4 = r := ⟨_, rfl⟩
  rw [hr] at HN ⊢
  clear h hr
  go_enter Try.func47, Try.ntmps47
  go_wp2_with (go_at_call 87; (with_reducible refine (HN.out).mono ?_); rintro e w1 ⟨rfl, hP, hC⟩)
  go_ret2
  exact ⟨rfl, hP, hC⟩
theorem be16_any (X : Nat) (x : Sr) (l : Led) (w : World) (h : Pair w X x l) : Calls Try.prog 52 #[.pointer (some ⟨X, 0, none⟩)] w (NumOf w X x l 2 false) := by
  have HN := Lib.hid (read_any X x l 2 false w h (by decide) (by decide))
  unfold NumOf at HN ⊢
  obtain ⟨⟨⟨y, m⟩, s, ok⟩, hr⟩ : ∃ r, x.next l 2 = r := ⟨_, rfl⟩
  rw [hr] at HN ⊢
  clear h hr
  go_enter Try.func52, Try.ntmps52
  go_wp2_with (go_at_call 87; (with_reducible refine (HN.out).mono ?_); rintro e w1 ⟨rfl, hP, hC⟩)
  go_ret2
  exact ⟨rfl, hP, hC⟩
theorem be32_any (X : Nat) (x : Sr) (l : Led) (w : World) (h : Pair w X x l) : Calls Try.prog 49 #[.pointer (some ⟨X, 0, none⟩)] w (NumOf w X x l 4 false) := by
  have HN := Lib.hid (read_any X x l 4 false w h (by decide) (by decide))
  unfold NumOf at HN ⊢
  obtain ⟨⟨⟨y, m⟩, s, ok⟩, hr⟩ : ∃ r, x.next l 4 = r := ⟨_, rfl⟩
  rw [hr] at HN ⊢
  clear h hr
  go_enter Try.func49, Try.ntmps49
  go_wp2_with (go_at_call 87; (with_reducible refine (HN.out).mono ?_); rintro e w1 ⟨rfl, hP, hC⟩)
  go_ret2
  exact ⟨rfl, hP, hC⟩
/-- Four bytes with a sign. -/
def signed (v : Int) : Int := if 2147483648 ≤ v then v - 4294967296 else v
theorem signed_wrap (v : Int) (h0 : 0 ≤ v) (h1 : v < 4294967296) : wrap64 (wrap32 (v % 4294967296)) = signed v := by
  unfold wrap64 wrap32 signed; split <;> omega
theorem ret_num {a b : Int} {ok : Bool} (h : a = b) : Ending.returned (.tuple #[.int .i64 a, .bool ok]) = Ending.returned (.tuple #[.int .i64 b, .bool ok]) := by rw [h]
abbrev SgnOf (w : World) (X : Nat) (x : Sr) (l : Led) : Ending → World → Prop := NumPost w X x (x.next l 4).1.1 (x.next l 4).1.2 (signed (numB (x.next l 4).2.1 true)) (x.next l 4).2.2
theorem int32_any (X : Nat) (x : Sr) (l : Led) (w : World) (h : Pair w X x l) : Calls Try.prog 50 #[.pointer (some ⟨X, 0, none⟩)] w (SgnOf w X x l) := by
  have HN := Lib.hid (le32_any X x l w h)
  have hs := next_size x l 4 (by decide)
  unfold SgnOf
  unfold NumOf at HN
  obtain ⟨⟨⟨y, m⟩, s, ok⟩, hr⟩ : ∃ r, x.next l 4 = r := ⟨_, rfl⟩
  rw [hr] at HN hs ⊢
  have hb := numB_bd s true
  have hp := pow_le' (show 8 * s.size ≤ 32 by simp only at hs; omega)
  have h32 : (2 : Int) ^ 32 = 4294967296 := by decide
  obtain ⟨v, hv⟩ : ∃ v, numB s true = v := ⟨_, rfl⟩
  show Calls _ _ _ _ (NumPost w X x y m (signed (numB s true)) ok)
  have HN : Hid (Calls Try.prog 47 #[.pointer (some ⟨X, 0, none⟩)] w (NumPost w X x y m (numB s true) ok)) := HN
  rw [hv] at HN hb ⊢
  have E := Lib.hid (signed_wrap v hb.1 (by omega))
  clear h hr hs hp h32 hv hb
  go_enter Try.func50, Try.ntmps50
  go_wp2_with (go_at_call 47; (with_reducible refine (HN.out).mono ?_); rintro e w1 ⟨rfl, hP, hC⟩)
  go_ret2
  exact ⟨ret_num E.out, hP, hC⟩
theorem next_ok {x : Sr} {l : Led} {n : Int} (h : (x.next l n).2.2 = true) : (l.work 1).2 = true ∧ 0 ≤ n ∧ n ≤ (x.e : Int) - x.p ∧ (x.next l n).1.1 = { x with p := x.p + n.toNat } ∧ (x.next l n).1.2 = (l.work 1).1 ∧ (x.next l n).2.1 = x.s.extract x.p (x.p + n.toNat) := by
  unfold Sr.next at h ⊢
  by_cases hc : (l.work 1).2 = true ∧ 0 ≤ n ∧ n ≤ (x.e : Int) - x.p
  · rw [if_pos hc]; exact ⟨hc.1, hc.2.1, hc.2.2, rfl, rfl, rfl⟩
  · rw [if_neg hc] at h; simp at h
theorem next_bad {x : Sr} {l : Led} {n : Int} (h : (x.next l n).2.2 = false) : (x.next l n).1.1 = x ∧ (x.next l n).1.2 = (l.work 1).1 ∧ (x.next l n).2.1 = ByteArray.empty ∧ ¬ ((l.work 1).2 = true ∧ 0 ≤ n ∧ n ≤ (x.e : Int) - x.p) := by
  unfold Sr.next at h ⊢
  by_cases hc : (l.work 1).2 = true ∧ 0 ≤ n ∧ n ≤ (x.e : Int) - x.p
  · rw [if_pos hc] at h; simp at h
  · rw [if_neg hc]; exact ⟨rfl, rfl, rfl, hc⟩
abbrev PeekOf (w : World) (X : Nat) (x : Sr) (l : Led) : Ending → World → Prop := NumPost w X x x (x.next l 1).1.2 (numB (x.next l 1).2.1 true) (x.next l 1).2.2
theorem peek_any (X : Nat) (x : Sr) (l : Led) (w : World) (h : Pair w X x l) : Calls Try.prog 95 #[.pointer (some ⟨X, 0, none⟩)] w (PeekOf w X x l) := by
  have HN := Lib.hid (read_any X x l 1 true w h (by decide) (by decide))
  have hok := h.src.ok
  unfold PeekOf
  unfold NumOf at HN
  obtain ⟨m, hm⟩ : ∃ m, (x.next l 1).1.2 = m := ⟨_, rfl⟩
  obtain ⟨v, hv⟩ : ∃ v, numB (x.next l 1).2.1 true = v := ⟨_, rfl⟩
  cases hb : (x.next l 1).2.2
  · obtain ⟨e1, _⟩ := next_bad hb
    rw [hb, e1, hm, hv] at HN
    rw [hm, hv]
    clear hb e1 hm hv h hok
    go_enter Try.func95, Try.ntmps95
    go_wp2_with (go_at_call 87; (with_reducible refine (HN.out).mono ?_); rintro e w1 ⟨rfl, hP, hC⟩)
    go_ret2
    exact ⟨rfl, hP, hC⟩
  · obtain ⟨_, _, h3, e1, _⟩ := next_ok hb
    rw [hb, e1, hm, hv] at HN
    rw [hm, hv]
    have b1 := hok.bp
    have b2 := hok.pe
    have b3 := hok.es
    have b4 := hok.sz
    clear hb e1 hm hv h hok
    go_enter Try.func95, Try.ntmps95
    go_wp2_with ((go_at_call 87; (with_reducible refine (HN.out).mono ?_); rintro e w1 ⟨rfl, hP, hC⟩); have c4 : w1.cell? ⟨X, 4, none⟩ = some (.int .i64 ((x.p + 1 : Nat) : Int)) := hP.src.c4; have f4 := hP.src.f4)
    go_ret2
    refine ⟨rfl, ⟨hP.src.put' _ x.p (by omega) b1 b2, hP.led.put _ (fun e => hP.src.ne e.symm)⟩, hC.set _ _ (Or.inl (Or.inl rfl))⟩
/-! ### windows -/
def Sr.winB (x : Sr) (a n : Int) : Prop := (x.b : Int) ≤ a ∧ a ≤ x.e ∧ 0 ≤ n ∧ n ≤ (x.e : Int) - a
theorem window_no (X : Nat) (x : Sr) (a n : Int) (w : World) (h : SrcAt w X x) (hn : ¬ x.winB a n) : Calls Try.prog 42 #[.pointer (some ⟨X, 0, none⟩), .int .i64 a, .int .i64 n] w fun e w' => e = .returned (.tuple #[.pointer none, .bool false]) ∧ w = w' := by
  have k2 := h.c2
  have k3 := h.c3
  have b3 := h.ok.es
  have b4 := h.ok.sz
  unfold Sr.winB at hn
  clear h
  by_cases h1 : a < x.b
  · have G0 : decide (a < (x.b : Int)) = true := by rw [decide_eq_true_iff]; exact h1
    clear hn
    go_enter Try.func42, Try.ntmps42
    go_wp2
    go_ret2
    exact ⟨rfl, rfl⟩
  · have G0 : decide (a < (x.b : Int)) = false := by rw [decide_eq_false_iff_not]; exact h1
    by_cases h2 : (x.e : Int) < a
    · have G1 : decide (a > (x.e : Int)) = true := by rw [decide_eq_true_iff]; exact h2
      clear hn
      go_enter Try.func42, Try.ntmps42
      go_wp2
      go_ret2
      exact ⟨rfl, rfl⟩
    · have G1 : decide (a > (x.e : Int)) = false := by rw [decide_eq_false_iff_not]; exact h2
      by_cases h3 : n < 0
      · have G2 : decide (n < 0) = true := by rw [decide_eq_true_iff]; exact h3
        clear hn
        go_enter Try.func42, Try.ntmps42
        go_wp2
        go_ret2
        exact ⟨rfl, rfl⟩
      · have G2 : decide (n < 0) = false := by rw [decide_eq_false_iff_not]; exact h3
        have h4 : (x.e : Int) - a < n := by omega
        clear hn
        go_enter Try.func42, Try.ntmps42
        go_wp2
        go_ret2
        exact ⟨rfl, rfl⟩
set_option maxRecDepth 100000 in
theorem window_yes (X : Nat) (x : Sr) (a n : Nat) (w : World) (h : SrcAt w X x) (hn : x.winB a n) : Calls Try.prog 42 #[.pointer (some ⟨X, 0, none⟩), .int .i64 a, .int .i64 n] w fun e w' =>
      ∃ Y, e = .returned (.tuple #[.pointer (some ⟨Y, 0, none⟩), .bool true]) ∧ Obj1 w' Y (Sr.cells ⟨x.L, x.s, a, a + n, a⟩) 148 ∧ w.heap.size ≤ Y ∧ Chg (fun _ => False) w w' := by
  have k0 := h.c0
  have k1 := h.c1
  have k2 := h.c2
  have k3 := h.c3
  have b3 := h.ok.es
  have b4 := h.ok.sz
  obtain ⟨h1, h2, h3, h4⟩ := hn
  have G0 : decide ((a : Int) < (x.b : Int)) = false := by rw [decide_eq_false_iff_not]; omega
  have G1 : decide ((a : Int) > (x.e : Int)) = false := by rw [decide_eq_false_iff_not]; omega
  have G2 : decide ((n : Int) < 0) = false := by rw [decide_eq_false_iff_not]; omega
  clear h
  go_enter Try.func42, Try.ntmps42
  go_wp2
  go_still_tail 14, (by kernel_rfl)
  rw [show (⟨w.heap, w.tape, w.drawn + 1, w.os, w.output⟩ : World) = w.drewN 1 from rfl]
  go_wp2
  go_ret2
  exact ⟨w.heap.size, rfl, obj1_new _ _ _, Nat.le_refl _, ((Chg.refl _ w).drewN 1).alloc _⟩
end Go.Proofs.Ytobpocdpnkicnaa

/- A source as an object. -/
import Derived.Test.YtlfbaggcfaenlaaGreatK0
import Derived.Lib.EndianBits
import Derived.Test.YtlfbaggcfaenlaaGreatProg
namespace Go.Proofs.YtlfbaggcfaenlaaGreat
open Go.RowKit
set_option linter.unusedVariables false
structure Sr where
  L : Nat
  s : ByteArray
  b : Nat
  e : Nat
  p : Nat
def Sr.cells (x : Sr) : Array Value := #[.pointer (some ⟨x.L, 0, none⟩), .string x.s, .int .i64 x.b, .int .i64 x.e, .int .i64 x.p]
structure Sr.ok (x : Sr) : Prop where
  bp : x.b ≤ x.p
  pe : x.p ≤ x.e
  es : x.e ≤ x.s.size
  sz : x.s.size ≤ 9223372036854775807
structure SrcAt (w : World) (X : Nat) (x : Sr) : Prop where
  obj : Obj1 w X x.cells 127
  ok : x.ok
  ne : X ≠ x.L
theorem SrcAt.chg {S : Nat → Prop} {w w' : World} {X : Nat} {x : Sr} (h : SrcAt w X x) (hc : Chg S w w') (hn : ¬ S X) : SrcAt w' X x := ⟨hc.obj h.obj hn, h.ok, h.ne⟩
theorem SrcAt.lt {w : World} {X : Nat} {x : Sr} (h : SrcAt w X x) : X < w.heap.size := h.obj.lt
theorem SrcAt.c0 {w : World} {X : Nat} {x : Sr} (h : SrcAt w X x) : w.cell? ⟨X, 0, none⟩ = some (.pointer (some ⟨x.L, 0, none⟩)) := (h.obj.cell 0).trans rfl
theorem SrcAt.c1 {w : World} {X : Nat} {x : Sr} (h : SrcAt w X x) : w.cell? ⟨X, 1, none⟩ = some (.string x.s) := (h.obj.cell 1).trans rfl
theorem SrcAt.c2 {w : World} {X : Nat} {x : Sr} (h : SrcAt w X x) : w.cell? ⟨X, 2, none⟩ = some (.int .i64 x.b) := (h.obj.cell 2).trans rfl
theorem SrcAt.c3 {w : World} {X : Nat} {x : Sr} (h : SrcAt w X x) : w.cell? ⟨X, 3, none⟩ = some (.int .i64 x.e) := (h.obj.cell 3).trans rfl
theorem SrcAt.c4 {w : World} {X : Nat} {x : Sr} (h : SrcAt w X x) : w.cell? ⟨X, 4, none⟩ = some (.int .i64 x.p) := (h.obj.cell 4).trans rfl
theorem SrcAt.f4 {w : World} {X : Nat} {x : Sr} (h : SrcAt w X x) : w.frozen? ⟨X, 4, none⟩ = false := h.obj.frozen 4
theorem SrcAt.drewN {w : World} {X : Nat} {x : Sr} (h : SrcAt w X x) (n : Nat) : SrcAt (w.drewN n) X x := ⟨h.obj.drewN n, h.ok, h.ne⟩
theorem LedAt.drewN {w : World} {X : Nat} {x : Led} (h : LedAt w X x) (n : Nat) : LedAt (w.drewN n) X x := ⟨h.obj.drewN n, h.ok⟩
theorem SrcAt.put {w : World} {X : Nat} {x : Sr} (h : SrcAt w X x) (p : Nat) (h1 : x.b ≤ p) (h2 : p ≤ x.e) : SrcAt (w.setCell ⟨X, 4, none⟩ (.int .i64 p)) X { x with p := p } := ⟨h.obj.set 4 _, ⟨h1, h2, h.ok.es, h.ok.sz⟩, h.ne⟩
theorem SrcAt.put' {w : World} {X : Nat} {x : Sr} (h : SrcAt w X x) (v : Int) (p : Nat) (hv : v = p) (h1 : x.b ≤ p) (h2 : p ≤ x.e) : SrcAt (w.setCell ⟨X, 4, none⟩ (.int .i64 v)) X { x with p := p } := by subst hv; exact h.put p h1 h2
theorem LedAt.put {w : World} {L X i : Nat} {l : Led} (h : LedAt w L l) (v : Value) (hn : L ≠ X) : LedAt (w.setCell ⟨X, i, none⟩ v) L l := ⟨h.obj.set_other _ _ hn, h.ok⟩
structure Pair (w : World) (X : Nat) (x : Sr) (l : Led) : Prop where
  src : SrcAt w X x
  led : LedAt w x.L l
abbrev two (X : Nat) (x : Sr) (k : Nat) : Prop := k = X ∨ k = x.L
theorem left_any (X : Nat) (x : Sr) (w : World) (h : SrcAt w X x) : Calls Tryz.prog 205 #[.pointer (some ⟨X, 0, none⟩)] w fun e w' => e = .returned (.int .i64 ((x.e : Int) - x.p)) ∧ ∃ k, w.drewN k = w' := by
  have k3 := h.c3
  have k4 := h.c4
  obtain ⟨-, ⟨h1, h2, h3, h4⟩, -⟩ := h
  have e1 : IntKind.i64.wrap ((x.e : Int) - x.p) = (x.e : Int) - x.p := i64_wrap_id _ (by omega) (by omega)
  go_enter Tryz.func205, Tryz.ntmps205
  go_wp2
  go_quiet (fail)
  go_wp2
  go_ret
  exact ⟨rfl, _, rfl⟩
def Sr.next (x : Sr) (l : Led) (n : Int) : (Sr × Led) × (ByteArray × Bool) :=
  if (l.work 1).2 = true ∧ 0 ≤ n ∧ n ≤ (x.e : Int) - x.p then (({ x with p := x.p + n.toNat }, (l.work 1).1), (x.s.extract x.p (x.p + n.toNat), true)) else ((x, (l.work 1).1), (ByteArray.empty, false))
def NextPost (w : World) (X : Nat) (x : Sr) (r : (Sr × Led) × (ByteArray × Bool)) (e : Ending) (w' : World) : Prop :=
  e = .returned (.tuple #[.string r.2.1, .bool r.2.2]) ∧ Pair w' X r.1.1 r.1.2 ∧ Chg (two X x) w w'
theorem work_two {X : Nat} {x : Sr} {l l' : Led} {w w' : World} (h : Pair w X x l) (hl : LedAt w' x.L l') (hc : Chg (· = x.L) w w') : Pair w' X x l' ∧ Chg (two X x) w w' :=
  ⟨⟨h.src.chg hc h.src.ne, hl⟩, hc.mono fun k _ e => Or.inr e⟩
theorem two_left {X : Nat} {x : Sr} {l : Led} {w w' : World} {k : Nat} (h : Pair w X x l) (e : w.drewN k = w') : Pair w' X x l ∧ Chg (two X x) w w' := by
  subst e; exact ⟨⟨h.src.drewN k, h.led.drewN k⟩, (Chg.refl _ w).drewN k⟩
theorem next_no (X : Nat) (x : Sr) (l : Led) (n : Int) (w : World) (h : Pair w X x l) (hn : ¬ ((l.work 1).2 = true ∧ 0 ≤ n ∧ n ≤ (x.e : Int) - x.p)) :
    Calls Tryz.prog 142 #[.pointer (some ⟨X, 0, none⟩), .int .i64 n] w (NextPost w X x ((x, (l.work 1).1), (ByteArray.empty, false))) := by
  have k0 := h.src.c0
  have HW := Hi (work_any x.L l 1 w h.led)
  have H := Hi h
  obtain ⟨ok, hok⟩ : ∃ ok, (l.work 1).2 = ok := ⟨_, rfl⟩
  rw [hok] at hn HW
  clear hok h
  cases ok with
  | false =>
    clear hn
    go_enter Tryz.func142, Tryz.ntmps142
    go_wp2_with (go_at_call 173; (with_reducible refine (HW.out).mono ?_); rintro e w1 ⟨rfl, hL1, hC1⟩)
    go_ret2
    obtain ⟨p1, p2⟩ := work_two H.out hL1 hC1
    exact ⟨rfl, p1, p2⟩
  | true =>
    have hn : n < 0 ∨ (0 ≤ n ∧ (x.e : Int) - x.p < n) := by have := hn; simp at this; omega
    rcases hn with hn | ⟨h0, hn⟩
    · have G0 : decide (n < 0) = true := by rw [decide_eq_true_iff]; exact hn
      go_enter Tryz.func142, Tryz.ntmps142
      go_wp2_with (go_at_call 173; (with_reducible refine (HW.out).mono ?_); rintro e w1 ⟨rfl, hL1, hC1⟩)
      go_ret2
      obtain ⟨p1, p2⟩ := work_two H.out hL1 hC1
      exact ⟨rfl, p1, p2⟩
    · have G0 : decide (n < 0) = false := by rw [decide_eq_false_iff_not]; omega
      obtain ⟨d, hd⟩ : ∃ d, (x.e : Int) - x.p = d := ⟨_, rfl⟩
      have HLf := Hi (fun w0 (h0 : SrcAt w0 X x) => (left_any X x w0 h0).mono (R' := fun e w' => e = .returned (.int .i64 d) ∧ ∃ k, w0.drewN k = w') fun e w' hh => by rw [hd] at hh; exact hh)
      rw [hd] at hn
      clear hd
      go_enter Tryz.func142, Tryz.ntmps142
      go_wp2_with (first
        | (go_at_call 173; (with_reducible refine (HW.out).mono ?_); rintro e w1 ⟨rfl, hL1, hC1⟩)
        | (go_at_call 205; (with_reducible refine (HLf.out _ (work_two H.out hL1 hC1).1.src).mono ?_); rintro e w2 ⟨rfl, hk2⟩))
      go_ret2
      obtain ⟨p1, p2⟩ := work_two H.out hL1 hC1
      obtain ⟨k, hk⟩ := hk2
      obtain ⟨q1, q2⟩ := two_left p1 hk
      exact ⟨rfl, q1, p2.trans q2⟩
theorem next_yes (X : Nat) (x : Sr) (l : Led) (n : Nat) (w : World) (h : Pair w X x l) (hok : (l.work 1).2 = true) (hn : n ≤ x.e - x.p) :
    Calls Tryz.prog 142 #[.pointer (some ⟨X, 0, none⟩), .int .i64 n] w (NextPost w X x (({ x with p := x.p + n }, (l.work 1).1), (x.s.extract x.p (x.p + n), true))) := by
  have k0 := h.src.c0
  have hpe := h.src.ok.pe
  have hes := h.src.ok.es
  have hsz := h.src.ok.sz
  have HW := Hi (work_any x.L l 1 w h.led)
  have H := Hi h
  rw [hok] at HW
  clear hok h
  have G0 : decide ((n : Int) < 0) = false := by rw [decide_eq_false_iff_not]; omega
  obtain ⟨d, hd⟩ : ∃ d, (x.e : Int) - x.p = d := ⟨_, rfl⟩
  have HLf := Hi (fun w0 (h0 : SrcAt w0 X x) => (left_any X x w0 h0).mono (R' := fun e w' => e = .returned (.int .i64 d) ∧ ∃ k, w0.drewN k = w') fun e w' hh => by rw [hd] at hh; exact hh)
  have hnd : (n : Int) ≤ d := by omega
  have G1 : decide ((n : Int) > d) = false := by rw [decide_eq_false_iff_not]; omega
  clear hd
  go_enter Tryz.func142, Tryz.ntmps142
  go_wp2_with (first
    | (go_at_call 173; (with_reducible refine (HW.out).mono ?_); rintro e w1 ⟨rfl, hL1, hC1⟩)
    | (go_at_call 205; (with_reducible refine (HLf.out _ (work_two H.out hL1 hC1).1.src).mono ?_); rintro e w2 ⟨rfl, hk2⟩))
  obtain ⟨p1, p2⟩ := work_two H.out hL1 hC1
  obtain ⟨k, hk⟩ := hk2
  obtain ⟨q1, q2⟩ := two_left p1 hk
  have Q1 := Hi q1
  have Q2 := Hi (p2.trans q2)
  have c0 := q1.src.c0
  have c1 := q1.src.c1
  have c4 := q1.src.c4
  have f4 := q1.src.f4
  have e0 : IntKind.i64.wrap ((x.p : Int) + n) = (x.p : Int) + n := i64_wrap_id _ (by omega) (by omega)
  have e1 : ((x.p : Int) + n).toNat = x.p + n := by omega
  have b0 : (0 : Int) ≤ (x.p : Int) := by omega
  have b1 : (x.p : Int) ≤ (x.p : Int) + n := by omega
  have b2 : (x.p : Int) + n ≤ (x.s.size : Int) := by omega
  clear hk q1 q2 p1 p2 hC1 hL1
  go_quiet (fail)
  clear e0 e1
  go_wp2
  go_ret2
  exact ⟨rfl, ⟨(Q1.out.src.drewN _).put' _ (x.p + n) (by omega) (by have := Q1.out.src.ok.bp; omega) (by omega), (Q1.out.led.drewN _).put _ (fun e => Q1.out.src.ne e.symm)⟩, (Q2.out.drewN _).set _ _ (Or.inl (Or.inl rfl))⟩
theorem next_any (X : Nat) (x : Sr) (l : Led) (n : Int) (w : World) (h : Pair w X x l) : Calls Tryz.prog 142 #[.pointer (some ⟨X, 0, none⟩), .int .i64 n] w (NextPost w X x (x.next l n)) := by
  unfold Sr.next
  by_cases hc : (l.work 1).2 = true ∧ 0 ≤ n ∧ n ≤ (x.e : Int) - x.p
  · rw [if_pos hc]
    obtain ⟨h1, h2, h3⟩ := hc
    obtain ⟨n, rfl⟩ := Int.eq_ofNat_of_zero_le h2
    exact next_yes X x l n w h h1 (by omega)
  · rw [if_neg hc]
    exact next_no X x l n w h hc
/-! ### plain readers -/
theorem at_any (X : Nat) (x : Sr) (w : World) (h : SrcAt w X x) : Calls Tryz.prog 32 #[.pointer (some ⟨X, 0, none⟩)] w fun e w' => e = .returned (.int .i64 x.p) ∧ w = w' := by
  have k := h.c4
  clear h
  go_enter Tryz.func32, Tryz.ntmps32
  go_wp2
  go_ret
  exact ⟨rfl, rfl⟩
theorem take_any (X : Nat) (x : Sr) (l : Led) (n : Int) (w : World) (h : Pair w X x l) : Calls Tryz.prog 66 #[.pointer (some ⟨X, 0, none⟩), .int .i64 n] w (NextPost w X x (x.next l n)) := by
  have HN := Hi (next_any X x l n w h)
  obtain ⟨⟨⟨y, m⟩, s, ok⟩, hr⟩ : ∃ r, x.next l n = r := ⟨_, rfl⟩
  rw [hr] at HN ⊢
  clear h hr
  go_enter Tryz.func66, Tryz.ntmps66
  go_wp2_with (go_at_call 142; (with_reducible refine (HN.out).mono ?_); rintro e w1 ⟨rfl, hP, hC⟩)
  go_ret2
  exact ⟨rfl, hP, hC⟩
def BoolPost (w : World) (X : Nat) (x y : Sr) (m : Led) (ok : Bool) (e : Ending) (w' : World) : Prop := e = .returned (.bool ok) ∧ Pair w' X y m ∧ Chg (two X x) w w'
theorem skip_any (X : Nat) (x : Sr) (l : Led) (n : Int) (w : World) (h : Pair w X x l) : Calls Tryz.prog 70 #[.pointer (some ⟨X, 0, none⟩), .int .i64 n] w (BoolPost w X x (x.next l n).1.1 (x.next l n).1.2 (x.next l n).2.2) := by
  have HN := Hi (next_any X x l n w h)
  obtain ⟨⟨⟨y, m⟩, s, ok⟩, hr⟩ : ∃ r, x.next l n = r := ⟨_, rfl⟩
  rw [hr] at HN ⊢
  clear h hr
  go_enter Tryz.func70, Tryz.ntmps70
  go_wp2_with (go_at_call 142; (with_reducible refine (HN.out).mono ?_); rintro e w1 ⟨rfl, hP, hC⟩)
  go_ret
  exact ⟨rfl, hP, hC⟩
theorem snew_any (L : Nat) (s : ByteArray) (w : World) (hs : s.size ≤ 9223372036854775807) (hL : L < w.heap.size) : Calls Tryz.prog 17 #[.pointer (some ⟨L, 0, none⟩), .string s] w fun e w' =>
      ∃ X, e = .returned (.tuple #[.pointer (some ⟨X, 0, none⟩), .int .i64 0]) ∧ SrcAt w' X ⟨L, s, 0, s.size, 0⟩ ∧ w.heap.size ≤ X ∧ Chg (fun _ => False) w w' := by
  go_enter Tryz.func17, Tryz.ntmps17
  go_wp2
  go_ret2
  exact ⟨w.heap.size, rfl, ⟨obj1_new _ _ _, ⟨Nat.le_refl _, Nat.zero_le _, Nat.le_refl _, hs⟩, by show w.heap.size ≠ L; omega⟩, Nat.le_refl _, (Chg.refl _ _).alloc _⟩
def Sr.fault (x : Sr) (l : Led) (f : Int) : Value := if l.br = true then .agg #[.int .i64 4, .int .i64 f, .int .i64 x.p] else .agg #[.int .i64 1, .int .i64 f, .int .i64 x.e]
theorem fault_any (X : Nat) (x : Sr) (l : Led) (f : Int) (w : World) (h : Pair w X x l) : Calls Tryz.prog 67 #[.pointer (some ⟨X, 0, none⟩), .int .i64 f] w fun e w' => e = .returned (x.fault l f) ∧ Below w.heap.size w w' := by
  have k0 := h.src.c0
  have k3 := h.src.c3
  have k4 := h.src.c4
  have hlt := h.src.lt
  have HL := Hi (fun T => broken_any x.L l (w.alloc (.cells #[.int .i64 0, .int .i64 0, .int .i64 0] T)) ⟨h.led.obj.alloc _, h.led.ok⟩)
  unfold Sr.fault
  obtain ⟨b, hb⟩ : ∃ b, l.br = b := ⟨_, rfl⟩
  rw [hb] at HL ⊢
  clear h hb
  cases b
  · go_enter Tryz.func67, Tryz.ntmps67
    go_wp2_with (go_at_call 51; (with_reducible refine (HL.out _).mono ?_); rintro e w1 ⟨rfl, rfl⟩)
    refine bodyPost_ret (v := .agg #[.int .i64 1, .int .i64 f, .int .i64 x.e]) (by simp [results, Tryz.results67, go_sem]) rfl ⟨rfl, ?_⟩
    exact (Below.refl _ _).alloc (Nat.le_refl _) _
  · go_enter Tryz.func67, Tryz.ntmps67
    go_wp2_with (go_at_call 51; (with_reducible refine (HL.out _).mono ?_); rintro e w1 ⟨rfl, rfl⟩)
    refine bodyPost_ret (v := .agg #[.int .i64 4, .int .i64 f, .int .i64 x.p]) (by simp [results, Tryz.results67, go_sem]) rfl ⟨rfl, ?_⟩
    exact (Below.refl _ _).alloc (Nat.le_refl _) _
def byN (s : ByteArray) (i : Nat) : Int := (s.data.toList.getD i 0).toNat
theorem byN_bd (s : ByteArray) (i : Nat) : 0 ≤ byN s i ∧ byN s i < 256 := by
  unfold byN; have := (s.data.toList.getD i 0).toNat_lt; omega
theorem byN_get (s : ByteArray) (i : Nat) (h : i < s.size) : ((s[i]).toNat : Int) = byN s i := by
  unfold byN
  rw [List.getD_eq_getElem?_getD, List.getElem?_eq_getElem (by simpa using h)]
  rfl
def loK (s : ByteArray) : Nat → Int
  | 0 => 0
  | k + 1 => loK s k + byN s k * 2 ^ (8 * k)
def hiK (s : ByteArray) : Nat → Int
  | 0 => 0
  | k + 1 => hiK s k * 256 + byN s k
theorem pow8 (k : Nat) : (2 : Int) ^ (8 * (k + 1)) = 256 * 2 ^ (8 * k) := by
  rw [show 8 * (k + 1) = 8 * k + 8 by omega, Int.pow_add]; have : (2 : Int) ^ 8 = 256 := by decide
  rw [this, Int.mul_comm]
theorem loK_bd (s : ByteArray) (k : Nat) : 0 ≤ loK s k ∧ loK s k < 2 ^ (8 * k) := by
  induction k with
  | zero => simp [loK]
  | succ k ih =>
    have hb := byN_bd s k
    have hp := pow_pos' (8 * k)
    have h0 : 0 ≤ byN s k * 2 ^ (8 * k) := Int.mul_nonneg hb.1 (by omega)
    have h1 : byN s k * 2 ^ (8 * k) ≤ 255 * 2 ^ (8 * k) := Int.mul_le_mul_of_nonneg_right (by omega) (by omega)
    rw [pow8, loK]; omega
theorem hiK_bd (s : ByteArray) (k : Nat) : 0 ≤ hiK s k ∧ hiK s k < 2 ^ (8 * k) := by
  induction k with
  | zero => simp [hiK]
  | succ k ih =>
    have hb := byN_bd s k
    rw [pow8, hiK]; omega
theorem i64_wraps (n : Int) (h₀ : 0 ≤ n) (h₁ : n < 2 ^ 63) : IntKind.i64.wrap n = n := i64_wrap_id n h₀ h₁
theorem or_low (i : Nat) (v y : Int) (h0 : 0 ≤ v) (h1 : v < 2 ^ i) (hy : 0 ≤ y) (h2 : v + y * 2 ^ i < 2 ^ 62) : bits .or .i64 v (y * 2 ^ i) = v + y * 2 ^ i := by
  have hp := pow_pos' i
  have hm := Int.mul_nonneg hy (Int.le_of_lt hp)
  have h63 : (2 : Int) ^ 63 = 9223372036854775808 := by decide
  have h62 : (2 : Int) ^ 62 = 4611686018427387904 := by decide
  exact bits_join_low .i64 63 (by decide) i64_wraps i v _ h0 h1 (by omega) hm (Int.mul_emod_left _ _) (by omega)
theorem or_high (i : Nat) (v y : Int) (h0 : 0 ≤ v) (h1 : v < 2 ^ i) (hy : 0 ≤ y) (h2 : v + y * 2 ^ i < 2 ^ 62) : bits .or .i64 (y * 2 ^ i) v = y * 2 ^ i + v := by
  have hp := pow_pos' i
  have hm := Int.mul_nonneg hy (Int.le_of_lt hp)
  have h63 : (2 : Int) ^ 63 = 9223372036854775808 := by decide
  have h62 : (2 : Int) ^ 62 = 4611686018427387904 := by decide
  exact bits_join .i64 63 (by decide) i64_wraps i _ v hm (Int.mul_emod_left _ _) (by omega) h0 h1 (by omega)
theorem pow32 (k : Nat) (h : k ≤ 3) : (1 : Int) ≤ 2 ^ (8 * k) ∧ (2 : Int) ^ (8 * k) ≤ 16777216 := by
  have h1 := pow_pos' (8 * k)
  have h2 := pow_le' (show 8 * k ≤ 24 by omega)
  have h3 : (2 : Int) ^ 24 = 16777216 := by decide
  omega
theorem lo_round (s : ByteArray) (k : Nat) (h : k ≤ 3) : bits .or .i64 (loK s k) (wrap64 (wrap64 (byN s k) * 2 ^ (8 * k))) = loK s (k + 1) := by
  have hb := byN_bd s k
  have hl := loK_bd s k
  have hp := pow32 k h
  have h0 : 0 ≤ byN s k * 2 ^ (8 * k) := Int.mul_nonneg hb.1 (by omega)
  have h1 : byN s k * 2 ^ (8 * k) ≤ 255 * 2 ^ (8 * k) := Int.mul_le_mul_of_nonneg_right (by omega) (by omega)
  have h62 : (2 : Int) ^ 62 = 4611686018427387904 := by decide
  rw [IntWalk.wrap64_in (byN s k) (by omega), IntWalk.wrap64_in _ (by omega), or_low (8 * k) _ _ hl.1 hl.2 hb.1 (by omega)]
  rfl
theorem number_lo' (s : ByteArray) (w : World) (hs : s.size ≤ 4) : Calls Tryz.prog 253 #[.string s, .bool true] w fun e w' => e = .returned (.int .i64 (loK s s.size)) ∧ w = w' := by
  go_enter Tryz.func253, Tryz.ntmps253
  go_wp2
  go_loop [5, 6, 9] (fun v j i => ∃ k : Nat, k ≤ s.size ∧ i = .int .i64 k ∧ v = .int .i64 (loK s k)) (fun _ _ i => s.size - (intOf i).toNat)
  case atStart => exact ⟨0, by omega, rfl, rfl⟩
  case round =>
    obtain ⟨k, hk, rfl, rfl⟩ := hrel
    by_cases hlt : k < s.size
    · go_wp2
      go_round
      case rel => exact ⟨k + 1, by omega, by go_num, by rw [byN_get s k hlt, lo_round s k (by omega)]⟩
      case measure => simp [intOf]; omega
    · have E := Hi (show loK s k = loK s s.size by rw [show k = s.size by omega])
      have hge : s.size ≤ k := by omega
      go_wp2
      go_ret
      exact ⟨ret_int E.out, rfl⟩
theorem hi_round (s : ByteArray) (k : Nat) (h : k ≤ 3) : bits .or .i64 (hiK s k * 256) (wrap64 (byN s k)) = hiK s (k + 1) := by
  have hb := byN_bd s k
  have hl := hiK_bd s k
  have hp := pow32 k h
  have h62 : (2 : Int) ^ 62 = 4611686018427387904 := by decide
  have h8 : (2 : Int) ^ 8 = 256 := by decide
  have := or_high 8 (byN s k) (hiK s k) hb.1 (by omega) hl.1 (by omega)
  rw [h8] at this
  rw [IntWalk.wrap64_in (byN s k) (by omega), this]; rfl
theorem number_hi' (s : ByteArray) (w : World) (hs : s.size ≤ 4) : Calls Tryz.prog 253 #[.string s, .bool false] w fun e w' => e = .returned (.int .i64 (hiK s s.size)) ∧ w = w' := by
  go_enter Tryz.func253, Tryz.ntmps253
  go_wp2
  go_loop [5, 6, 9] (fun v j i => ∃ k : Nat, k ≤ s.size ∧ i = .int .i64 k ∧ v = .int .i64 (hiK s k)) (fun _ _ i => s.size - (intOf i).toNat)
  case atStart => exact ⟨0, by omega, rfl, rfl⟩
  case round =>
    obtain ⟨k, hk, rfl, rfl⟩ := hrel
    have hl := hiK_bd s k
    by_cases hlt : k < s.size
    · have hp := pow32 k (by omega)
      obtain ⟨l0, l1⟩ := hl
      have l2 : hiK s k ≤ 16777216 := by omega
      clear l1 hp
      go_wp2
      go_round
      case rel => exact ⟨k + 1, by omega, by go_num, by rw [byN_get s k hlt, hi_round s k (by omega)]⟩
      case measure => simp [intOf]; omega
    · have E := Hi (show hiK s k = hiK s s.size by rw [show k = s.size by omega])
      have hge : s.size ≤ k := by omega
      clear hl
      go_wp2
      go_ret
      exact ⟨ret_int E.out, rfl⟩
/-! ### the document's numbers -/
theorem rle_any (s : ByteArray) (w : World) (hs : s.size ≤ 4) : Calls Tryz.prog 86 #[.string s] w fun e w' => e = .returned (.int .i64 (loK s s.size)) ∧ w = w' := by
  go_enter Tryz.func86, Tryz.ntmps86
  go_wp2
  go_loop [3, 4] (fun v i => ∃ k : Nat, ∃ V : Int, k ≤ s.size ∧ i = .int .i64 ((k : Int) - 1) ∧ v = .int .i64 V ∧ 0 ≤ V ∧ V < 2 ^ (8 * (s.size - k)) ∧ loK s s.size = loK s k + V * 2 ^ (8 * k)) (fun _ i => (intOf i + 1).toNat)
  case atStart => exact ⟨s.size, 0, by omega, rfl, rfl, by omega, by rw [Nat.sub_self]; decide, by omega⟩
  case round =>
    obtain ⟨k, V, hk, rfl, rfl, h0, h1, h2⟩ := hrel
    have H2 := Hi h2
    have H1 := Hi h1
    clear h2
    by_cases hlt : 1 ≤ k
    · obtain ⟨k, rfl⟩ : ∃ m, k = m + 1 := ⟨k - 1, by omega⟩
      have hb := byN_bd s k
      have hkl : k < s.size := by omega
      have hV : V ≤ 16777216 := by have := pow32 (s.size - (k + 1)) (by omega); omega
      have e1 : (((k + 1 : Nat) : Int) - 1) = (k : Int) := by omega
      rw [e1]
      clear h1 e1
      go_wp2
      go_round
      case rel =>
        refine ⟨k, V * 256 + byN s k, by omega, by go_num, ?_, by omega, ?_, ?_⟩
        · rw [byN_get s k hkl, IntWalk.wrap64_in (byN s k) (by omega), IntWalk.wrap64_in _ (by omega), Int.mul_comm]
        · rw [show s.size - k = (s.size - (k + 1)) + 1 by omega, pow8]; have := H1.out; omega
        · rw [H2.out, pow8, loK, Int.add_mul, Int.mul_assoc, Int.add_assoc, Int.add_comm (V * _)]
      case measure => simp [intOf]
    · obtain rfl : k = 0 := by omega
      have E := Hi (show V = loK s s.size by rw [H2.out, loK]; simp)
      clear h1
      go_wp2
      go_ret
      exact ⟨ret_int E.out, rfl⟩
def numB (s : ByteArray) (low : Bool) : Int := if low = true then loK s s.size else hiK s s.size
theorem number_any' (s : ByteArray) (low : Bool) (w : World) (hs : s.size ≤ 4) : Calls Tryz.prog 253 #[.string s, .bool low] w fun e w' => e = .returned (.int .i64 (numB s low)) ∧ w = w' := by
  cases low
  · exact number_hi' s w hs
  · exact number_lo' s w hs
theorem next_size (x : Sr) (l : Led) (n : Int) (h : 0 ≤ n) : ((x.next l n).2.1.size : Int) ≤ n := by
  unfold Sr.next
  split
  · simp only [ByteArray.size_extract]; omega
  · simpa using h
def NumPost (w : World) (X : Nat) (x y : Sr) (m : Led) (v : Int) (ok : Bool) (e : Ending) (w' : World) : Prop := e = .returned (.tuple #[.int .i64 v, .bool ok]) ∧ Pair w' X y m ∧ Chg (two X x) w w'
abbrev NumOf (w : World) (X : Nat) (x : Sr) (l : Led) (n : Int) (low : Bool) : Ending → World → Prop := NumPost w X x (x.next l n).1.1 (x.next l n).1.2 (numB (x.next l n).2.1 low) (x.next l n).2.2
theorem read_any (X : Nat) (x : Sr) (l : Led) (n : Int) (low : Bool) (w : World) (h : Pair w X x l) (h0 : 0 ≤ n) (h1 : n ≤ 4) : Calls Tryz.prog 219 #[.pointer (some ⟨X, 0, none⟩), .int .i64 n, .bool low] w (NumOf w X x l n low) := by
  have HN := Hi (next_any X x l n w h)
  have hs := next_size x l n h0
  unfold NumOf
  obtain ⟨⟨⟨y, m⟩, s, ok⟩, hr⟩ : ∃ r, x.next l n = r := ⟨_, rfl⟩
  rw [hr] at HN hs ⊢
  have hs' : s.size ≤ 4 := by simp only at hs; omega
  have HB := Hi (fun w0 => number_any' s low w0 hs')
  clear h hr hs hs' h0 h1
  go_enter Tryz.func219, Tryz.ntmps219
  go_wp2_with (first
    | (go_at_call 142; (with_reducible refine (HN.out).mono ?_); rintro e w1 ⟨rfl, hP, hC⟩)
    | (go_at_call 253; (with_reducible refine (HB.out _).mono ?_); rintro e w2 ⟨rfl, rfl⟩))
  go_ret2
  exact ⟨rfl, hP, hC⟩
theorem u8_any (X : Nat) (x : Sr) (l : Led) (w : World) (h : Pair w X x l) : Calls Tryz.prog 157 #[.pointer (some ⟨X, 0, none⟩)] w (NumOf w X x l 1 true) := by
  have HN := Hi (read_any X x l 1 true w h (by decide) (by decide))
  unfold NumOf at HN ⊢
  obtain ⟨⟨⟨y, m⟩, s, ok⟩, hr⟩ : ∃ r, x.next l 1 = r := ⟨_, rfl⟩
  rw [hr] at HN ⊢
  clear h hr
  go_enter Tryz.func157, Tryz.ntmps157
  go_wp2_with (go_at_call 219; (with_reducible refine (HN.out).mono ?_); rintro e w1 ⟨rfl, hP, hC⟩)
  go_ret2
  exact ⟨rfl, hP, hC⟩
theorem le16_any (X : Nat) (x : Sr) (l : Led) (w : World) (h : Pair w X x l) : Calls Tryz.prog 223 #[.pointer (some ⟨X, 0, none⟩)] w (NumOf w X x l 2 true) := by
  have HN := Hi (read_any X x l 2 true w h (by decide) (by decide))
  unfold NumOf at HN ⊢
  obtain ⟨⟨⟨y, m⟩, s, ok⟩, hr⟩ : ∃ r, x.next l 2 = r := ⟨_, rfl⟩
  rw [hr] at HN ⊢
  clear h hr
  go_enter Tryz.func223, Tryz.ntmps223
  go_wp2_with (go_at_call 219; (with_reducible refine (HN.out).mono ?_); rintro e w1 ⟨rfl, hP, hC⟩)
  go_ret2
  exact ⟨rfl, hP, hC⟩
theorem le32_any (X : Nat) (x : Sr) (l : Led) (w : World) (h : Pair w X x l) : Calls Tryz.prog 224 #[.pointer (some ⟨X, 0, none⟩)] w (NumOf w X x l 4 true) := by
  have HN := Hi (read_any X x l 4 true w h (by decide) (by decide))
  unfold NumOf at HN ⊢
  obtain ⟨⟨⟨y, m⟩, s, ok⟩, hr⟩ : ∃ r, x.next l 4 = r := ⟨_, rfl⟩
  rw [hr] at HN ⊢
  clear h hr
  go_enter Tryz.func224, Tryz.ntmps224
  go_wp2_with (go_at_call 219; (with_reducible refine (HN.out).mono ?_); rintro e w1 ⟨rfl, hP, hC⟩)
  go_ret2
  exact ⟨rfl, hP, hC⟩
def signed (v : Int) : Int := if 2147483648 ≤ v then v - 4294967296 else v
theorem next_ok {x : Sr} {l : Led} {n : Int} (h : (x.next l n).2.2 = true) : (l.work 1).2 = true ∧ 0 ≤ n ∧ n ≤ (x.e : Int) - x.p ∧ (x.next l n).1.1 = { x with p := x.p + n.toNat } ∧ (x.next l n).1.2 = (l.work 1).1 ∧ (x.next l n).2.1 = x.s.extract x.p (x.p + n.toNat) := by
  unfold Sr.next at h ⊢
  by_cases hc : (l.work 1).2 = true ∧ 0 ≤ n ∧ n ≤ (x.e : Int) - x.p
  · rw [if_pos hc]; exact ⟨hc.1, hc.2.1, hc.2.2, rfl, rfl, rfl⟩
  · rw [if_neg hc] at h; simp at h
/-! ### windows -/
def strOf (ns : List Int) : ByteArray := ns.foldl (fun r n => r.push (UInt8.ofNat n.toNat)) ByteArray.empty
theorem app1 {P : Program} {ops : Array Oper} {rest : List Oper} {o : Oper} {a : Act} {Q : Exit → Act → World → Prop} (hgd : o.guard = none) (s x : Operand) (t : TypeId)
    (ho : o.op = .call { callee := .builtin .append, args := #[s, x], argTypes := #[t, t] })
    (base : Nat) (e : TypeId) (z : Value) (bytes : Nat) (ht : P.underlying t = some (.slice e)) (hi : (P.info? e).map (fun i => (i.zero, i.size, i.bytes)) = some (some z, 1, bytes)) (hz1 : z.cells.size = 1)
    (v : Value) (n : Nat) (xs : List Value) (hs : a.eval s = v) {wr : World} (hown : wr.ownsRow base e 1 v n xs) (X : Value) (hX : X.oneCell' = true) (T : TypeId)
    (hx : a.eval x = .slice (some ⟨wr.heap.size, 0, none⟩) 1 1) (hn : (n + 1) * bytes ≤ 140737488355328) (hn2 : n + 1 ≤ maxLen) (hbase : base ≤ wr.heap.size)
    (h : ∀ v' w', w'.ownsRow base e 1 v' (n + 1) (xs ++ [X]) → (∀ W, Below base W wr → Below base W w') → base ≤ w'.heap.size → wpList P ops Q rest (a.put o.dst v') w') :
    wpList P ops Q (o :: rest) a (wr.alloc (.cells #[X] T)) := by
  obtain ⟨i, i1, i2, i3, i4⟩ := info_parts hi
  have hz : wr.heap.size < (wr.alloc (.cells #[X] T)).heap.size := by simp
  refine wpList_append_own _ hgd s x t ho base e i z 1 bytes ht i1 i2 i3 i4 hz1 (by decide) v n xs hs (hown.alloc _) ⟨wr.heap.size, 0, none⟩ 1 1 [X] hx rfl ?_ ?_ hn2 hn (by omega) ?_
  · intro j u hj
    match j, hj with
    | 0, hj => simp at hj; subst hj; simp [Addr.add, go_sem]
  · intro u hu; simp at hu; subst hu; exact hX
  · intro v' w' hown' hgrow _
    refine h v' w' hown' (fun W hB => ?_) (Nat.le_trans (by omega) hgrow.size)
    refine (hB.alloc hbase _).grown hgrow (by omega) ?_
    intro k hk
    obtain ⟨_, h2⟩ := hown
    rcases h2 with ⟨rfl, _⟩ | ⟨g, cap, cur, rfl, hg, _⟩
    · simp [Value.ownBlock] at hk
    · simp [Value.ownBlock] at hk; omega
theorem owns_cell {w : World} {base e g n cap : Nat} {xs : List Value} (h : w.ownsRow base e 1 (.slice (some ⟨g, 0, none⟩) n cap) n xs) (j : Nat) (v : Value) (hv : xs[j]? = some v) : w.cell? ⟨g, j, none⟩ = some v := by
  obtain ⟨hl, h2⟩ := h
  rcases h2 with ⟨h2, _⟩ | ⟨g', cap', cur, hv', hg, hh, hn, hc, hs, ht⟩
  · simp at h2
  · injection hv' with hv'; injection hv' with hv'; injection hv' with hv'; subst hv'
    have hj : j < n := by rw [← Nat.mul_one n, ← hl]; exact (List.getElem?_eq_some_iff.1 hv).1
    rw [← ht, List.getElem?_take, if_pos (by omega)] at hv
    simp [World.cell?, hh]; simpa using hv
theorem owns_froz {w : World} {base e g n cap : Nat} {xs : List Value} (h : w.ownsRow base e 1 (.slice (some ⟨g, 0, none⟩) n cap) n xs) (j : Nat) : w.frozen? ⟨g, j, none⟩ = false := by
  obtain ⟨hl, h2⟩ := h
  rcases h2 with ⟨h2, _⟩ | ⟨g', cap', cur, hv', hg, hh, hn, hc, hs, ht⟩
  · simp at h2
  · injection hv' with hv'; injection hv' with hv'; injection hv' with hv'; subst hv'
    simp [World.frozen?, hh]
theorem owns_form {w : World} {base e n : Nat} {v : Value} {xs : List Value} (h : w.ownsRow base e 1 v n xs) (hn : 0 < n) : ∃ g cap, v = .slice (some ⟨g, 0, none⟩) n cap ∧ base ≤ g ∧ g < w.heap.size ∧ n ≤ cap ∧ cap ≤ maxLen := by
  obtain ⟨hl, h2⟩ := h
  rcases h2 with ⟨_, h2⟩ | ⟨g', cap', cur, hv', hg, hh, hn, hc, hs, ht⟩
  · omega
  · exact ⟨g', cap', hv', hg, (Array.getElem?_eq_some_iff.1 hh).1, hn, hc⟩
theorem owns_len {w : World} {base e n : Nat} {v : Value} {xs : List Value} (h : w.ownsRow base e 1 v n xs) : xs.length = n := by have := h.1; omega
theorem owns_set {w : World} {base e g n cap : Nat} {xs : List Value} (h : w.ownsRow base e 1 (.slice (some ⟨g, 0, none⟩) n cap) n xs) (j : Nat) (hj : j < n) (X : Value) :
    (w.setCell ⟨g, j, none⟩ X).ownsRow base e 1 (.slice (some ⟨g, 0, none⟩) n cap) n (xs.set j X) := by
  obtain ⟨hl, h2⟩ := h
  refine ⟨by simpa using hl, ?_⟩
  rcases h2 with ⟨h2, _⟩ | ⟨g', cap', cur, hv', hg, hh, hn, hc, hs, ht⟩
  · simp at h2
  · injection hv' with hv' h1 h2; injection hv' with hv'; injection hv' with hv'; subst hv'; subst h2
    refine Or.inr ⟨g, cap, cur.setIfInBounds j X, rfl, hg, ?_, hn, hc, by simpa using hs, ?_⟩
    · simp [World.setCell, Array.getElem?_modify, hh]
    · rw [← ht]; simp [List.take_set]
theorem owns_string {P : Program} {w : World} {base e n : Nat} {v : Value} {ns : List Int} (h : w.ownsRow base e 1 v n (ns.map (Value.int .u8))) (src dst e' : TypeId)
    (hs : P.underlying src = some (.slice e')) (he : P.underlying e' = some (.int .u8)) (hd : P.underlying dst = some .string) : (convert src dst v).run P w = .ok (.string (strOf ns)) w := by
  have hl := owns_len h
  simp at hl
  by_cases h0 : n = 0
  · subst h0
    obtain rfl : ns = [] := List.length_eq_zero_iff.1 hl
    obtain ⟨_, h2⟩ := h
    rcases h2 with ⟨rfl, _⟩ | ⟨g, cap, cur, rfl, hg, hh, _⟩
    · rw [run_convert_bytes_string w src dst e' none 0 0 hs he hd]; rfl
    · rw [run_convert_bytes_string w src dst e' _ 0 cap hs he hd]
      exact run_bytesToString w _ 0 cap [] (by rfl)
  · obtain ⟨g, cap, rfl, _⟩ := owns_form h (by omega)
    rw [run_convert_bytes_string w src dst e' _ n cap hs he hd]
    refine run_bytesToString w _ n cap ns ?_
    have := run_loadCells_list (P := P) w ⟨g, 0, none⟩ (ns.map (Value.int .u8)) (fun j v hv => by rw [Addr.add_mid, Nat.zero_add]; exact owns_cell h j v hv)
    rw [List.length_map, hl] at this; exact this
end Go.Proofs.YtlfbaggcfaenlaaGreat
namespace Go.Proofs.YtlfbaggcfaenlaaGreat
open Go.RowKit
def byteAt (v : Int) (j : Nat) : Int := v / 2 ^ (8 * j) % 256
def bytesF (v : Int) : Nat → List Int
  | 0 => []
  | n + 1 => bytesF v n ++ [byteAt v n]
theorem bytesF_len (v : Int) (n : Nat) : (bytesF v n).length = n := by induction n with | zero => rfl | succ n ih => simp [bytesF, ih]
def orLast (xs : List Int) (y : Int) : List Int := xs.set (xs.length - 1) (bits .or .u8 (xs.getD (xs.length - 1) 0) y)
def packF (l : List Int) (d : Nat) : Nat → List Int
  | 0 => []
  | k + 1 => if 8 ≤ d then packF l d k ++ bytesF (l.getD k 0) (d / 8)
    else if k * d % 8 = 0 then packF l d k ++ [l.getD k 0 * 2 ^ (8 - d) % 256] else orLast (packF l d k) (l.getD k 0 * 2 ^ (8 - d - k * d % 8) % 256)
theorem packF_wide (l : List Int) (d k : Nat) (h : 8 ≤ d) : packF l d (k + 1) = packF l d k ++ bytesF (l.getD k 0) (d / 8) := by rw [packF, if_pos h]
theorem packF_new (l : List Int) (d k : Nat) (h : d < 8) (h2 : k * d % 8 = 0) : packF l d (k + 1) = packF l d k ++ [l.getD k 0 * 2 ^ (8 - d) % 256] := by rw [packF, if_neg (by omega), if_pos h2]
theorem packF_old (l : List Int) (d k : Nat) (h : d < 8) (h2 : k * d % 8 ≠ 0) : packF l d (k + 1) = orLast (packF l d k) (l.getD k 0 * 2 ^ (8 - d - k * d % 8) % 256) := by rw [packF, if_neg (by omega), if_neg h2]
theorem packF_len (l : List Int) (d k : Nat) (hd : d = 1 ∨ d = 4 ∨ d = 8 ∨ d = 16 ∨ d = 24 ∨ d = 32) : (packF l d k).length = (k * d + 7) / 8 := by
  induction k with
  | zero => simp [packF]
  | succ k ih =>
    by_cases h : 8 ≤ d
    · rw [packF_wide l d k h, List.length_append, bytesF_len, ih]
      rcases hd with rfl | rfl | rfl | rfl | rfl | rfl <;> omega
    · by_cases h2 : k * d % 8 = 0
      · rw [packF_new l d k (by omega) h2, List.length_append, ih, Nat.add_mul]; simp
        rcases hd with rfl | rfl | rfl | rfl | rfl | rfl <;> omega
      · rw [packF_old l d k (by omega) h2, orLast, List.length_set, ih, Nat.add_mul]
        rcases hd with rfl | rfl | rfl | rfl | rfl | rfl <;> omega
def padF (xs : List Int) : List Int := xs ++ List.replicate ((4 - xs.length % 4) % 4) 0
def slLen : Value → Nat
  | .slice _ n _ => n
  | _ => 0
theorem owns_shape {w : World} {base e n : Nat} {v : Value} {xs : List Value} (h : w.ownsRow base e 1 v n xs) : ∃ a cap, v = .slice a n cap := by
  obtain ⟨hl, h2⟩ := h
  rcases h2 with ⟨rfl, rfl⟩ | ⟨g', cap', cur, hv', hg, hh, hn, hc, hs, ht⟩
  · exact ⟨none, 0, rfl⟩
  · exact ⟨_, _, hv'⟩
theorem owns_eq {w : World} {base e n n' : Nat} {v : Value} {xs xs' : List Value} (h : w.ownsRow base e 1 v n xs) (hn : n = n') (hx : xs = xs') : w.ownsRow base e 1 v n' xs' := by subst hn hx; exact h
theorem bytesF_succ (v : Int) (n : Nat) : bytesF v (n + 1) = bytesF v n ++ [byteAt v n] := rfl
theorem pad_done (xs : List Int) (j : Nat) (hj : j ≤ (4 - xs.length % 4) % 4) (h : (xs.length + j) % 4 = 0) : xs ++ List.replicate j 0 = padF xs := by
  unfold padF
  rw [show j = (4 - xs.length % 4) % 4 by omega]
end Go.Proofs.YtlfbaggcfaenlaaGreat
namespace Go.Proofs.YtlfbaggcfaenlaaGreat
open Go.RowKit
set_option linter.unusedVariables false
theorem getD_mem' (l : List Int) (k : Nat) (h : k < l.length) : l.getD k 0 ∈ l := by
  rw [List.getD_eq_getElem?_getD, List.getElem?_eq_getElem h]; exact List.getElem_mem h
def goodB (d : Nat) (v : Int) : Bool := decide (0 ≤ v) && decide (v < 2 ^ d)
theorem goodB_iff (d : Nat) (v : Int) : goodB d v = true ↔ 0 ≤ v ∧ v < 2 ^ d := by simp [goodB]
def packI (l : List Int) (d : Nat) : ByteArray × Int := if l.all (goodB d) = true then (strOf (padF (packF l d l.length)), 0) else (ByteArray.empty, 2)
def Packs (w : World) (r : ByteArray × Int) (e : Ending) (w' : World) : Prop := e = .returned (.tuple #[.string r.1, .int .i64 r.2]) ∧ Below w.heap.size w w'
theorem packI_bad (l : List Int) (d k : Nat) (hk : k < l.length) (h : ¬ (0 ≤ l.getD k 0 ∧ l.getD k 0 < 2 ^ d)) : packI l d = (ByteArray.empty, 2) := by
  unfold packI
  rw [if_neg]
  intro ha
  exact h ((goodB_iff d _).1 (List.all_eq_true.1 ha _ (getD_mem' l k hk)))
theorem packI_good (l : List Int) (d : Nat) (h : ∀ k, k < l.length → 0 ≤ l.getD k 0 ∧ l.getD k 0 < 2 ^ d) : packI l d = (strOf (padF (packF l d l.length)), 0) := by
  unfold packI
  rw [if_pos]
  rw [List.all_eq_true]
  intro x hx
  obtain ⟨k, hk, rfl⟩ := List.getElem_of_mem hx
  have := h k hk
  rw [List.getD_eq_getElem?_getD, List.getElem?_eq_getElem hk] at this
  exact (goodB_iff d _).2 this
theorem good_next {l : List Int} {d k : Nat} {x : Int} (hz : ∀ j, j < k → 0 ≤ l.getD j 0 ∧ l.getD j 0 < 2 ^ d) (hx : l.getD k 0 = x) (h : 0 ≤ x ∧ x < 2 ^ d) : ∀ j, j < k + 1 → 0 ≤ l.getD j 0 ∧ l.getD j 0 < 2 ^ d := by
  intro j hj
  by_cases e : j = k
  · rw [e, hx]; exact h
  · exact hz j (by omega)
set_option maxHeartbeats 2000000 in
theorem dpack_8 (l : List Int) (B : Nat) (o : Nat) (cap : Nat) (w : World) (hB : B < w.heap.size) (hn : l.length ≤ 1000) (hc : ∀ i, i < l.length → w.cell? ⟨B, o + i, none⟩ = some (.int .i64 (l.getD i 0))) :
    Calls Tryz.prog 98 #[.slice (some ⟨B, o, none⟩) l.length cap, .int .i64 8] w (Packs w (packI l 8)) := by
  have HC := Hi hc
  clear hc
  go_enter Tryz.func98, Tryz.ntmps98
  go_wp2
  go_loopw [6, 21] (fun v i wr => ∃ k : Nat, k ≤ l.length ∧ i = .int .i64 k ∧ wr.ownsRow w.heap.size 5 1 v (packF l 8 k).length ((packF l 8 k).map (.int .u8)) ∧ (∀ j, j < k → 0 ≤ l.getD j 0 ∧ l.getD j 0 < 2 ^ 8) ∧ Below w.heap.size w wr) (fun _ i _ => l.length - (intOf i).toNat)
  case atStart => exact ⟨0, by omega, rfl, World.ownsRow_nil _ _ _ _, fun j hj => by omega, Below.refl _ _⟩
  case round =>
    obtain ⟨k, hk, rfl, hown, hz, hb⟩ := hrel
    have hOwn := Hi hown
    have HZ := Hi hz
    have hb' := Hi hb
    have hsz := hb.size
    clear hown hb hz
    by_cases hlt : k < l.length
    · have hck := ((bcell hb'.out).1 B (o + k) hB).trans (HC.out k hlt)
      by_cases hgd : 0 ≤ l.getD k 0 ∧ l.getD k 0 < 2 ^ 8
      rotate_left
      · have PB := Hi (packI_bad l 8 k hlt hgd)
        have hx : l.getD k 0 < 0 ∨ 256 ≤ l.getD k 0 := by omega
        obtain ⟨x, hx'⟩ : ∃ x, l.getD k 0 = x := ⟨_, rfl⟩
        rw [hx'] at hck hx
        clear hgd hx'
        rcases hx with hx | hx
        all_goals
          go_wp2
          go_ret2
          exact ⟨by rw [PB.out]; rfl, hb'.out⟩
      have hgd := Hi hgd
      obtain ⟨g0, g1⟩ := hgd.out
      obtain ⟨x, hx⟩ : ∃ x, l.getD k 0 = x := ⟨_, rfl⟩
      rw [hx] at hck g0 g1 hgd
      have HX := Hi hx
      clear hx
      have g2 : x < 256 := by omega
      clear g1
      go_wp2
      obtain ⟨wo, rfl⟩ : ∃ wo : World, wo = wr := ⟨_, rfl⟩
      go_loopw [6, 38] (fun v i wr => ∃ j : Nat, j ≤ 1 ∧ i = .int .i64 j ∧ wr.ownsRow w.heap.size 5 1 v (packF l 8 k ++ bytesF x j).length ((packF l 8 k ++ bytesF x j).map (.int .u8)) ∧ Below w.heap.size w wr) (fun _ i _ => 1 - (intOf i).toNat)
      case atStart => exact ⟨0, by omega, rfl, by simpa [bytesF] using hOwn.out, hb'.out⟩
      case round =>
        obtain ⟨j, hj, rfl, hown, hb⟩ := hrel
        have hOwn2 := Hi hown
        have hb2 := Hi hb
        have hsz2 := hb.size
        have hlen : (packF l 8 k ++ bytesF x j).length ≤ 5000 := by rw [List.length_append, bytesF_len, packF_len l 8 k (by simp)]; omega
        clear hown hb hsz hck
        by_cases hjl : j < 1
        · go_wp2_with (at_builtin; refine app1 rfl (.tmp 41) (.tmp 47) 61 rfl w.heap.size 5 (.int .u8 0) 1 Tryz.underlying61 (by kernel_rfl) rfl _ _ _ rfl hOwn2.out _ rfl _ rfl (by omega) (by unfold maxLen; omega) hsz2 ?_; intro v' w1 hown1 hB1 hz1; have O1 := Hi hown1; have B1 := Hi hB1; clear hown1 hB1)
          go_roundw
          case rel => exact ⟨j + 1, by omega, by go_num, owns_eq O1.out (by simp [bytesF_succ]; omega) (by simp [bytesF_succ, byteAt]), B1.out w hb2.out⟩
          case measure => simp [intOf]; omega
        · have hj2 : 1 ≤ j := by omega
          go_wp2
          go_roundw
          case rel => exact ⟨k + 1, by omega, by go_num, owns_eq hOwn2.out (by rw [packF_wide l 8 k (by decide), HX.out, show j = 1 by omega]) (by rw [packF_wide l 8 k (by decide), HX.out, show j = 1 by omega]), good_next HZ.out HX.out hgd.out, hb2.out⟩
          case measure => simp [intOf]; omega
    · have hge : l.length ≤ k := by omega
      have PG := Hi (packI_good l 8 (fun j hj => HZ.out j (by omega)))
      obtain ⟨P, hP⟩ : ∃ P, packF l 8 l.length = P := ⟨_, rfl⟩
      have hOwnP := Hi (show wr.ownsRow w.heap.size 5 1 u6 P.length (P.map (.int .u8)) by rw [← hP, ← show k = l.length by omega]; exact hOwn.out)
      have hPl : P.length ≤ 4000 := by rw [← hP, packF_len l 8 _ (by simp)]; omega
      have HP := Hi hP
      clear hP hOwn hsz
      go_wp2
      obtain ⟨wo, rfl⟩ : ∃ wo : World, wo = wr := ⟨_, rfl⟩
      go_loopw [6] (fun v wr => ∃ j : Nat, j ≤ (4 - P.length % 4) % 4 ∧ wr.ownsRow w.heap.size 5 1 v (P ++ List.replicate j 0).length ((P ++ List.replicate j 0).map (.int .u8)) ∧ Below w.heap.size w wr) (fun v _ => P.length + 4 - slLen v)
      case atStart => exact ⟨0, by omega, by simpa using hOwnP.out, hb'.out⟩
      case round =>
        obtain ⟨j, hj, hown, hb⟩ := hrel
        have hOwn2 := Hi hown
        have hb2 := Hi hb
        have hsz2 := hb.size
        obtain ⟨a, cp, hv⟩ := owns_shape hown
        have hcv := owns_string (P := Tryz.prog) hown 61 9 5 Tryz.underlying61 Tryz.underlying5 Tryz.underlying9
        obtain ⟨L, hL⟩ : ∃ L, (P ++ List.replicate j 0).length = L := ⟨_, rfl⟩
        have hLj : L = P.length + j := by rw [← hL]; simp
        have LJ := Hi hLj
        have hL2 : L ≤ 4004 := by omega
        rw [hL] at hv hOwn2
        rw [hv] at hcv hOwn2
        rw [hv]
        clear hown hb hL
        by_cases hm : L % 4 = 0
        · have ht : ((L : Int) % 4 != 0) = false := by rw [bne_eq_false_iff_eq]; omega
          have PD := Hi (pad_done P j hj (by omega))
          clear hm hLj
          go_wp2
          go_ret2
          exact ⟨by rw [PG.out, PD.out, HP.out]; rfl, hb2.out⟩
        · have ht : ((L : Int) % 4 != 0) = true := by rw [bne_iff_ne]; omega
          clear hcv hLj
          go_wp2_with (at_builtin; refine app1 rfl (.tmp 84) (.tmp 85) 61 rfl w.heap.size 5 (.int .u8 0) 1 Tryz.underlying61 (by kernel_rfl) rfl _ _ _ rfl hOwn2.out _ rfl _ rfl (by omega) (by unfold maxLen; omega) hsz2 ?_; intro v' w1 hown1 hB1 hz1; have O1 := Hi hown1; have B1 := Hi hB1; clear hown1 hB1)
          go_roundw
          case rel => exact ⟨j + 1, by have := LJ.out; omega, owns_eq O1.out (by have := LJ.out; simp; omega) (by rw [List.replicate_succ']; simp), B1.out w hb2.out⟩
          case measure =>
            have h1 := owns_shape O1.out
            obtain ⟨a', cp', hv'⟩ := h1
            have := LJ.out
            rw [hv']; simp only [slLen]; omega
set_option maxHeartbeats 2000000 in
theorem dpack_16 (l : List Int) (B : Nat) (o : Nat) (cap : Nat) (w : World) (hB : B < w.heap.size) (hn : l.length ≤ 1000) (hc : ∀ i, i < l.length → w.cell? ⟨B, o + i, none⟩ = some (.int .i64 (l.getD i 0))) :
    Calls Tryz.prog 98 #[.slice (some ⟨B, o, none⟩) l.length cap, .int .i64 16] w (Packs w (packI l 16)) := by
  have HC := Hi hc
  clear hc
  go_enter Tryz.func98, Tryz.ntmps98
  go_wp2
  go_loopw [6, 21] (fun v i wr => ∃ k : Nat, k ≤ l.length ∧ i = .int .i64 k ∧ wr.ownsRow w.heap.size 5 1 v (packF l 16 k).length ((packF l 16 k).map (.int .u8)) ∧ (∀ j, j < k → 0 ≤ l.getD j 0 ∧ l.getD j 0 < 2 ^ 16) ∧ Below w.heap.size w wr) (fun _ i _ => l.length - (intOf i).toNat)
  case atStart => exact ⟨0, by omega, rfl, World.ownsRow_nil _ _ _ _, fun j hj => by omega, Below.refl _ _⟩
  case round =>
    obtain ⟨k, hk, rfl, hown, hz, hb⟩ := hrel
    have hOwn := Hi hown
    have HZ := Hi hz
    have hb' := Hi hb
    have hsz := hb.size
    clear hown hb hz
    by_cases hlt : k < l.length
    · have hck := ((bcell hb'.out).1 B (o + k) hB).trans (HC.out k hlt)
      by_cases hgd : 0 ≤ l.getD k 0 ∧ l.getD k 0 < 2 ^ 16
      rotate_left
      · have PB := Hi (packI_bad l 16 k hlt hgd)
        have hx : l.getD k 0 < 0 ∨ 65536 ≤ l.getD k 0 := by omega
        obtain ⟨x, hx'⟩ : ∃ x, l.getD k 0 = x := ⟨_, rfl⟩
        rw [hx'] at hck hx
        clear hgd hx'
        rcases hx with hx | hx
        all_goals
          go_wp2
          go_ret2
          exact ⟨by rw [PB.out]; rfl, hb'.out⟩
      have hgd := Hi hgd
      obtain ⟨g0, g1⟩ := hgd.out
      obtain ⟨x, hx⟩ : ∃ x, l.getD k 0 = x := ⟨_, rfl⟩
      rw [hx] at hck g0 g1 hgd
      have HX := Hi hx
      clear hx
      have g2 : x < 65536 := by omega
      clear g1
      go_wp2
      obtain ⟨wo, rfl⟩ : ∃ wo : World, wo = wr := ⟨_, rfl⟩
      go_loopw [6, 38] (fun v i wr => ∃ j : Nat, j ≤ 2 ∧ i = .int .i64 j ∧ wr.ownsRow w.heap.size 5 1 v (packF l 16 k ++ bytesF x j).length ((packF l 16 k ++ bytesF x j).map (.int .u8)) ∧ Below w.heap.size w wr) (fun _ i _ => 2 - (intOf i).toNat)
      case atStart => exact ⟨0, by omega, rfl, by simpa [bytesF] using hOwn.out, hb'.out⟩
      case round =>
        obtain ⟨j, hj, rfl, hown, hb⟩ := hrel
        have hOwn2 := Hi hown
        have hb2 := Hi hb
        have hsz2 := hb.size
        have hlen : (packF l 16 k ++ bytesF x j).length ≤ 5000 := by rw [List.length_append, bytesF_len, packF_len l 16 k (by simp)]; omega
        clear hown hb hsz hck
        by_cases hjl : j < 2
        · go_wp2_with (at_builtin; refine app1 rfl (.tmp 41) (.tmp 47) 61 rfl w.heap.size 5 (.int .u8 0) 1 Tryz.underlying61 (by kernel_rfl) rfl _ _ _ rfl hOwn2.out _ rfl _ rfl (by omega) (by unfold maxLen; omega) hsz2 ?_; intro v' w1 hown1 hB1 hz1; have O1 := Hi hown1; have B1 := Hi hB1; clear hown1 hB1)
          go_roundw
          case rel => exact ⟨j + 1, by omega, by go_num, owns_eq O1.out (by simp [bytesF_succ]; omega) (by simp [bytesF_succ, byteAt]), B1.out w hb2.out⟩
          case measure => simp [intOf]; omega
        · have hj2 : 2 ≤ j := by omega
          go_wp2
          go_roundw
          case rel => exact ⟨k + 1, by omega, by go_num, owns_eq hOwn2.out (by rw [packF_wide l 16 k (by decide), HX.out, show j = 2 by omega]) (by rw [packF_wide l 16 k (by decide), HX.out, show j = 2 by omega]), good_next HZ.out HX.out hgd.out, hb2.out⟩
          case measure => simp [intOf]; omega
    · have hge : l.length ≤ k := by omega
      have PG := Hi (packI_good l 16 (fun j hj => HZ.out j (by omega)))
      obtain ⟨P, hP⟩ : ∃ P, packF l 16 l.length = P := ⟨_, rfl⟩
      have hOwnP := Hi (show wr.ownsRow w.heap.size 5 1 u6 P.length (P.map (.int .u8)) by rw [← hP, ← show k = l.length by omega]; exact hOwn.out)
      have hPl : P.length ≤ 4000 := by rw [← hP, packF_len l 16 _ (by simp)]; omega
      have HP := Hi hP
      clear hP hOwn hsz
      go_wp2
      obtain ⟨wo, rfl⟩ : ∃ wo : World, wo = wr := ⟨_, rfl⟩
      go_loopw [6] (fun v wr => ∃ j : Nat, j ≤ (4 - P.length % 4) % 4 ∧ wr.ownsRow w.heap.size 5 1 v (P ++ List.replicate j 0).length ((P ++ List.replicate j 0).map (.int .u8)) ∧ Below w.heap.size w wr) (fun v _ => P.length + 4 - slLen v)
      case atStart => exact ⟨0, by omega, by simpa using hOwnP.out, hb'.out⟩
      case round =>
        obtain ⟨j, hj, hown, hb⟩ := hrel
        have hOwn2 := Hi hown
        have hb2 := Hi hb
        have hsz2 := hb.size
        obtain ⟨a, cp, hv⟩ := owns_shape hown
        have hcv := owns_string (P := Tryz.prog) hown 61 9 5 Tryz.underlying61 Tryz.underlying5 Tryz.underlying9
        obtain ⟨L, hL⟩ : ∃ L, (P ++ List.replicate j 0).length = L := ⟨_, rfl⟩
        have hLj : L = P.length + j := by rw [← hL]; simp
        have LJ := Hi hLj
        have hL2 : L ≤ 4004 := by omega
        rw [hL] at hv hOwn2
        rw [hv] at hcv hOwn2
        rw [hv]
        clear hown hb hL
        by_cases hm : L % 4 = 0
        · have ht : ((L : Int) % 4 != 0) = false := by rw [bne_eq_false_iff_eq]; omega
          have PD := Hi (pad_done P j hj (by omega))
          clear hm hLj
          go_wp2
          go_ret2
          exact ⟨by rw [PG.out, PD.out, HP.out]; rfl, hb2.out⟩
        · have ht : ((L : Int) % 4 != 0) = true := by rw [bne_iff_ne]; omega
          clear hcv hLj
          go_wp2_with (at_builtin; refine app1 rfl (.tmp 84) (.tmp 85) 61 rfl w.heap.size 5 (.int .u8 0) 1 Tryz.underlying61 (by kernel_rfl) rfl _ _ _ rfl hOwn2.out _ rfl _ rfl (by omega) (by unfold maxLen; omega) hsz2 ?_; intro v' w1 hown1 hB1 hz1; have O1 := Hi hown1; have B1 := Hi hB1; clear hown1 hB1)
          go_roundw
          case rel => exact ⟨j + 1, by have := LJ.out; omega, owns_eq O1.out (by have := LJ.out; simp; omega) (by rw [List.replicate_succ']; simp), B1.out w hb2.out⟩
          case measure =>
            have h1 := owns_shape O1.out
            obtain ⟨a', cp', hv'⟩ := h1
            have := LJ.out
            rw [hv']; simp only [slLen]; omega
end Go.Proofs.YtlfbaggcfaenlaaGreat

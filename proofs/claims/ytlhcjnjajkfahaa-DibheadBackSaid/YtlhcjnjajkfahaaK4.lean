/- A source as an object. -/
import Derived.Test.YtlhcjnjajkfahaaK3
namespace Go.Proofs.Ytlhcjnjajkfahaa
open Go.RowKit
set_option linter.unusedVariables false
/-- What a source holds: its ledger's block, its text, where it begins, where it ends, its place. -/
structure Sr where
  L : Nat
  s : ByteArray
  b : Nat
  e : Nat
  p : Nat
def Sr.cells (x : Sr) : Array Value := #[.pointer (some ⟨x.L, 0, none⟩), .string x.s, .int .i64 x.b, .int .i64 x.e, .int .i64 x.p]
structure Sr.ok (x : Sr) : Prop where
  bp : x.b ≤ x.p
  pe : x.p ≤ x.e
  es : x.e ≤ x.s.size
  sz : x.s.size ≤ 9223372036854775807
structure SrcAt (w : World) (X : Nat) (x : Sr) : Prop where
  obj : Obj1 w X x.cells 99
  ok : x.ok
  ne : X ≠ x.L
theorem SrcAt.chg {S : Nat → Prop} {w w' : World} {X : Nat} {x : Sr} (h : SrcAt w X x) (hc : Chg S w w') (hn : ¬ S X) : SrcAt w' X x := ⟨hc.obj h.obj hn, h.ok, h.ne⟩
theorem SrcAt.lt {w : World} {X : Nat} {x : Sr} (h : SrcAt w X x) : X < w.heap.size := h.obj.lt
theorem SrcAt.c0 {w : World} {X : Nat} {x : Sr} (h : SrcAt w X x) : w.cell? ⟨X, 0, none⟩ = some (.pointer (some ⟨x.L, 0, none⟩)) := (h.obj.cell 0).trans rfl
theorem SrcAt.c1 {w : World} {X : Nat} {x : Sr} (h : SrcAt w X x) : w.cell? ⟨X, 1, none⟩ = some (.string x.s) := (h.obj.cell 1).trans rfl
theorem SrcAt.c2 {w : World} {X : Nat} {x : Sr} (h : SrcAt w X x) : w.cell? ⟨X, 2, none⟩ = some (.int .i64 x.b) := (h.obj.cell 2).trans rfl
theorem SrcAt.c3 {w : World} {X : Nat} {x : Sr} (h : SrcAt w X x) : w.cell? ⟨X, 3, none⟩ = some (.int .i64 x.e) := (h.obj.cell 3).trans rfl
theorem SrcAt.c4 {w : World} {X : Nat} {x : Sr} (h : SrcAt w X x) : w.cell? ⟨X, 4, none⟩ = some (.int .i64 x.p) := (h.obj.cell 4).trans rfl
theorem SrcAt.f4 {w : World} {X : Nat} {x : Sr} (h : SrcAt w X x) : w.frozen? ⟨X, 4, none⟩ = false := h.obj.frozen 4
theorem SrcAt.drewN {w : World} {X : Nat} {x : Sr} (h : SrcAt w X x) (n : Nat) : SrcAt (w.drewN n) X x := ⟨h.obj.drewN n, h.ok, h.ne⟩
theorem LedAt.drewN {w : World} {X : Nat} {x : Led} (h : LedAt w X x) (n : Nat) : LedAt (w.drewN n) X x := ⟨h.obj.drewN n, h.ok⟩
theorem SrcAt.put {w : World} {X : Nat} {x : Sr} (h : SrcAt w X x) (p : Nat) (h1 : x.b ≤ p) (h2 : p ≤ x.e) : SrcAt (w.setCell ⟨X, 4, none⟩ (.int .i64 p)) X { x with p := p } := ⟨h.obj.set 4 _, ⟨h1, h2, h.ok.es, h.ok.sz⟩, h.ne⟩
theorem SrcAt.put' {w : World} {X : Nat} {x : Sr} (h : SrcAt w X x) (v : Int) (p : Nat) (hv : v = p) (h1 : x.b ≤ p) (h2 : p ≤ x.e) : SrcAt (w.setCell ⟨X, 4, none⟩ (.int .i64 v)) X { x with p := p } := by subst hv; exact h.put p h1 h2
theorem LedAt.put {w : World} {L X i : Nat} {l : Led} (h : LedAt w L l) (v : Value) (hn : L ≠ X) : LedAt (w.setCell ⟨X, i, none⟩ v) L l := ⟨h.obj.set_other _ _ hn, h.ok⟩
/-- A source and its ledger. -/
structure Pair (w : World) (X : Nat) (x : Sr) (l : Led) : Prop where
  src : SrcAt w X x
  led : LedAt w x.L l
abbrev two (X : Nat) (x : Sr) (k : Nat) : Prop := k = X ∨ k = x.L
theorem left_any (X : Nat) (x : Sr) (w : World) (h : SrcAt w X x) : Calls Try.prog 119 #[.pointer (some ⟨X, 0, none⟩)] w fun e w' => e = .returned (.int .i64 ((x.e : Int) - x.p)) ∧ ∃ k, w.drewN k = w' := by
  have k3 := h.c3
  have k4 := h.c4
  obtain ⟨-, ⟨h1, h2, h3, h4⟩, -⟩ := h
  have e1 : IntKind.i64.wrap ((x.e : Int) - x.p) = (x.e : Int) - x.p := i64_wrap_id _ (by omega) (by omega)
  go_enter Try.func119, Try.ntmps119
  go_wp2
  go_quiet (fail)
  go_wp2
  go_ret
  exact ⟨rfl, _, rfl⟩
/-- The next bytes, if they come. -/
def Sr.next (x : Sr) (l : Led) (n : Int) : (Sr × Led) × (ByteArray × Bool) :=
  if (l.work 1).2 = true ∧ 0 ≤ n ∧ n ≤ (x.e : Int) - x.p then (({ x with p := x.p + n.toNat }, (l.work 1).1), (x.s.extract x.p (x.p + n.toNat), true)) else ((x, (l.work 1).1), (ByteArray.empty, false))
def NextPost (w : World) (X : Nat) (x : Sr) (r : (Sr × Led) × (ByteArray × Bool)) (e : Ending) (w' : World) : Prop :=
  e = .returned (.tuple #[.string r.2.1, .bool r.2.2]) ∧ Pair w' X r.1.1 r.1.2 ∧ Chg (two X x) w w'
theorem work_two {X : Nat} {x : Sr} {l l' : Led} {w w' : World} (h : Pair w X x l) (hl : LedAt w' x.L l') (hc : Chg (· = x.L) w w') : Pair w' X x l' ∧ Chg (two X x) w w' :=
  ⟨⟨h.src.chg hc h.src.ne, hl⟩, hc.mono fun k _ e => Or.inr e⟩
theorem two_left {X : Nat} {x : Sr} {l : Led} {w w' : World} {k : Nat} (h : Pair w X x l) (e : w.drewN k = w') : Pair w' X x l ∧ Chg (two X x) w w' := by
  subst e; exact ⟨⟨h.src.drewN k, h.led.drewN k⟩, (Chg.refl _ w).drewN k⟩
theorem next_no (X : Nat) (x : Sr) (l : Led) (n : Int) (w : World) (h : Pair w X x l) (hn : ¬ ((l.work 1).2 = true ∧ 0 ≤ n ∧ n ≤ (x.e : Int) - x.p)) :
    Calls Try.prog 101 #[.pointer (some ⟨X, 0, none⟩), .int .i64 n] w (NextPost w X x ((x, (l.work 1).1), (ByteArray.empty, false))) := by
  have k0 := h.src.c0
  have HW := Lib.hid (work_any x.L l 1 w h.led)
  have H := Lib.hid h
  obtain ⟨ok, hok⟩ : ∃ ok, (l.work 1).2 = ok := ⟨_, rfl⟩
  rw [hok] at hn HW
  clear hok h
  cases ok with
  | false =>
    clear hn
    go_enter Try.func101, Try.ntmps101
    go_wp2_with (go_at_call 118; (with_reducible refine (HW.out).mono ?_); rintro e w1 ⟨rfl, hL1, hC1⟩)
    go_ret2
    obtain ⟨p1, p2⟩ := work_two H.out hL1 hC1
    exact ⟨rfl, p1, p2⟩
  | true =>
    have hn : n < 0 ∨ (0 ≤ n ∧ (x.e : Int) - x.p < n) := by have := hn; simp at this; omega
    rcases hn with hn | ⟨h0, hn⟩
    · have G0 : decide (n < 0) = true := by rw [decide_eq_true_iff]; exact hn
      go_enter Try.func101, Try.ntmps101
      go_wp2_with (go_at_call 118; (with_reducible refine (HW.out).mono ?_); rintro e w1 ⟨rfl, hL1, hC1⟩)
      go_ret2
      obtain ⟨p1, p2⟩ := work_two H.out hL1 hC1
      exact ⟨rfl, p1, p2⟩
    · have G0 : decide (n < 0) = false := by rw [decide_eq_false_iff_not]; omega
      obtain ⟨d, hd⟩ : ∃ d, (x.e : Int) - x.p = d := ⟨_, rfl⟩
      have HLf := Lib.hid (fun w0 (h0 : SrcAt w0 X x) => (left_any X x w0 h0).mono (R' := fun e w' => e = .returned (.int .i64 d) ∧ ∃ k, w0.drewN k = w') fun e w' hh => by rw [hd] at hh; exact hh)
      rw [hd] at hn
      clear hd
      go_enter Try.func101, Try.ntmps101
      go_wp2_with (first
        | (go_at_call 118; (with_reducible refine (HW.out).mono ?_); rintro e w1 ⟨rfl, hL1, hC1⟩)
        | (go_at_call 119; (with_reducible refine (HLf.out _ (work_two H.out hL1 hC1).1.src).mono ?_); rintro e w2 ⟨rfl, hk2⟩))
      go_ret2
      obtain ⟨p1, p2⟩ := work_two H.out hL1 hC1
      obtain ⟨k, hk⟩ := hk2
      obtain ⟨q1, q2⟩ := two_left p1 hk
      exact ⟨rfl, q1, p2.trans q2⟩
theorem next_yes (X : Nat) (x : Sr) (l : Led) (n : Nat) (w : World) (h : Pair w X x l) (hok : (l.work 1).2 = true) (hn : n ≤ x.e - x.p) :
    Calls Try.prog 101 #[.pointer (some ⟨X, 0, none⟩), .int .i64 n] w (NextPost w X x (({ x with p := x.p + n }, (l.work 1).1), (x.s.extract x.p (x.p + n), true))) := by
  have k0 := h.src.c0
  have hpe := h.src.ok.pe
  have hes := h.src.ok.es
  have hsz := h.src.ok.sz
  have HW := Lib.hid (work_any x.L l 1 w h.led)
  have H := Lib.hid h
  rw [hok] at HW
  clear hok h
  have G0 : decide ((n : Int) < 0) = false := by rw [decide_eq_false_iff_not]; omega
  obtain ⟨d, hd⟩ : ∃ d, (x.e : Int) - x.p = d := ⟨_, rfl⟩
  have HLf := Lib.hid (fun w0 (h0 : SrcAt w0 X x) => (left_any X x w0 h0).mono (R' := fun e w' => e = .returned (.int .i64 d) ∧ ∃ k, w0.drewN k = w') fun e w' hh => by rw [hd] at hh; exact hh)
  have hnd : (n : Int) ≤ d := by omega
  have G1 : decide ((n : Int) > d) = false := by rw [decide_eq_false_iff_not]; omega
  clear hd
  go_enter Try.func101, Try.ntmps101
  go_wp2_with (first
    | (go_at_call 118; (with_reducible refine (HW.out).mono ?_); rintro e w1 ⟨rfl, hL1, hC1⟩)
    | (go_at_call 119; (with_reducible refine (HLf.out _ (work_two H.out hL1 hC1).1.src).mono ?_); rintro e w2 ⟨rfl, hk2⟩))
  obtain ⟨p1, p2⟩ := work_two H.out hL1 hC1
  obtain ⟨k, hk⟩ := hk2
  obtain ⟨q1, q2⟩ := two_left p1 hk
  have Q1 := Lib.hid q1
  have Q2 := Lib.hid (p2.trans q2)
  have c0 := q1.src.c0
  have c1 := q1.src.c1
  have c4 := q1.src.c4
  have f4 := q1.src.f4
  have e0 : IntKind.i64.wrap ((x.p : Int) + n) = (x.p : Int) + n := i64_wrap_id _ (by omega) (by omega)
  have e1 : ((x.p : Int) + n).toNat = x.p + n := by omega
  have b0 : (0 : Int) ≤ (x.p : Int) := by omega
  have b1 : (x.p : Int) ≤ (x.p : Int) + n := by omega
  have b2 : (x.p : Int) + n ≤ (x.s.size : Int) := by omega
  clear hk q1 q2 p1 p2 hC1 hL1
  go_quiet (fail)
  clear e0 e1
  go_wp2
  go_ret2
  exact ⟨rfl, ⟨(Q1.out.src.drewN _).put' _ (x.p + n) (by omega) (by have := Q1.out.src.ok.bp; omega) (by omega), (Q1.out.led.drewN _).put _ (fun e => Q1.out.src.ne e.symm)⟩, (Q2.out.drewN _).set _ _ (Or.inl (Or.inl rfl))⟩
theorem next_any (X : Nat) (x : Sr) (l : Led) (n : Int) (w : World) (h : Pair w X x l) : Calls Try.prog 101 #[.pointer (some ⟨X, 0, none⟩), .int .i64 n] w (NextPost w X x (x.next l n)) := by
  unfold Sr.next
  by_cases hc : (l.work 1).2 = true ∧ 0 ≤ n ∧ n ≤ (x.e : Int) - x.p
  · rw [if_pos hc]
    obtain ⟨h1, h2, h3⟩ := hc
    obtain ⟨n, rfl⟩ := Int.eq_ofNat_of_zero_le h2
    exact next_yes X x l n w h h1 (by omega)
  · rw [if_neg hc]
    exact next_no X x l n w h hc
/-! ### plain readers -/
theorem at_any (X : Nat) (x : Sr) (w : World) (h : SrcAt w X x) : Calls Try.prog 35 #[.pointer (some ⟨X, 0, none⟩)] w fun e w' => e = .returned (.int .i64 x.p) ∧ w = w' := by
  have k := h.c4
  clear h
  go_enter Try.func35, Try.ntmps35
  go_wp2
  go_ret
  exact ⟨rfl, rfl⟩
theorem take_any (X : Nat) (x : Sr) (l : Led) (n : Int) (w : World) (h : Pair w X x l) : Calls Try.prog 74 #[.pointer (some ⟨X, 0, none⟩), .int .i64 n] w (NextPost w X x (x.next l n)) := by
  have HN := Lib.hid (next_any X x l n w h)
  obtain ⟨⟨⟨y, m⟩, s, ok⟩, hr⟩ : ∃ r, x.next l n = r := ⟨_, rfl⟩
  rw [hr] at HN ⊢
  clear h hr
  go_enter Try.func74, Try.ntmps74
  go_wp2_with (go_at_call 101; (with_reducible refine (HN.out).mono ?_); rintro e w1 ⟨rfl, hP, hC⟩)
  go_ret2
  exact ⟨rfl, hP, hC⟩
def BoolPost (w : World) (X : Nat) (x y : Sr) (m : Led) (ok : Bool) (e : Ending) (w' : World) : Prop := e = .returned (.bool ok) ∧ Pair w' X y m ∧ Chg (two X x) w w'
/-- Any place that is asked for. -/
def Sr.seek (x : Sr) (n : Int) : Sr × Bool := if n < x.b ∨ (x.e : Int) < n then (x, false) else ({ x with p := n.toNat }, true)
theorem seek_any (X : Nat) (x : Sr) (l : Led) (n : Int) (w : World) (h : Pair w X x l) : Calls Try.prog 32 #[.pointer (some ⟨X, 0, none⟩), .int .i64 n] w (BoolPost w X x (x.seek n).1 l (x.seek n).2) := by
  have k2 := h.src.c2
  have k3 := h.src.c3
  have k4 := h.src.c4
  have f4 := h.src.f4
  have H := Lib.hid h
  clear h
  unfold Sr.seek
  by_cases h1 : n < x.b
  · rw [if_pos (Or.inl h1)]
    have G0 : decide (n < (x.b : Int)) = true := by rw [decide_eq_true_iff]; exact h1
    go_enter Try.func32, Try.ntmps32
    go_wp2
    go_ret
    exact ⟨rfl, H.out, Chg.refl _ _⟩
  · have G0 : decide (n < (x.b : Int)) = false := by rw [decide_eq_false_iff_not]; exact h1
    by_cases h2 : (x.e : Int) < n
    · rw [if_pos (Or.inr h2)]
      have G1 : decide (n > (x.e : Int)) = true := by rw [decide_eq_true_iff]; exact h2
      go_enter Try.func32, Try.ntmps32
      go_wp2
      go_ret
      exact ⟨rfl, H.out, Chg.refl _ _⟩
    · rw [if_neg (by omega)]
      have G1 : decide (n > (x.e : Int)) = false := by rw [decide_eq_false_iff_not]; exact h2
      go_enter Try.func32, Try.ntmps32
      go_wp2
      go_ret
      exact ⟨rfl, ⟨H.out.src.put' n n.toNat (by omega) (by omega) (by omega), H.out.led.put _ (fun e => H.out.src.ne e.symm)⟩, (Chg.refl _ _).set _ _ (Or.inl (Or.inl rfl))⟩
/-- A source over all of a text. -/
theorem snew_any (L : Nat) (s : ByteArray) (w : World) (hs : s.size ≤ 9223372036854775807) (hL : L < w.heap.size) : Calls Try.prog 68 #[.pointer (some ⟨L, 0, none⟩), .string s] w fun e w' =>
      ∃ X, e = .returned (.tuple #[.pointer (some ⟨X, 0, none⟩), .int .i64 0]) ∧ SrcAt w' X ⟨L, s, 0, s.size, 0⟩ ∧ w.heap.size ≤ X ∧ Chg (fun _ => False) w w' := by
  go_enter Try.func68, Try.ntmps68
  go_wp2
  go_ret2
  exact ⟨w.heap.size, rfl, ⟨obj1_new _ _ _, ⟨Nat.le_refl _, Nat.zero_le _, Nat.le_refl _, hs⟩, by show w.heap.size ≠ L; omega⟩, Nat.le_refl _, (Chg.refl _ _).alloc _⟩
theorem snew_nil (s : ByteArray) (w : World) : Calls Try.prog 68 #[.pointer none, .string s] w fun e w' => e = .returned (.tuple #[.pointer none, .int .i64 1]) ∧ w = w' := by
  go_enter Try.func68, Try.ntmps68
  go_wp2
  go_ret2
  exact ⟨rfl, rfl⟩
/-- Why a reading failed. -/
def Sr.fault (x : Sr) (l : Led) (f : Int) : Value := if l.br = true then .agg #[.int .i64 4, .int .i64 f, .int .i64 x.p] else .agg #[.int .i64 1, .int .i64 f, .int .i64 x.e]
theorem fault_any (X : Nat) (x : Sr) (l : Led) (f : Int) (w : World) (h : Pair w X x l) : Calls Try.prog 75 #[.pointer (some ⟨X, 0, none⟩), .int .i64 f] w fun e w' => e = .returned (x.fault l f) ∧ Below w.heap.size w w' := by
  have k0 := h.src.c0
  have k3 := h.src.c3
  have k4 := h.src.c4
  have hlt := h.src.lt
  have HL := Lib.hid (fun T => broken_any x.L l (w.alloc (.cells #[.int .i64 0, .int .i64 0, .int .i64 0] T)) ⟨h.led.obj.alloc _, h.led.ok⟩)
  unfold Sr.fault
  obtain ⟨b, hb⟩ : ∃ b, l.br = b := ⟨_, rfl⟩
  rw [hb] at HL ⊢
  clear h hb
  cases b
  · go_enter Try.func75, Try.ntmps75
    go_wp2_with (go_at_call 102; (with_reducible refine (HL.out _).mono ?_); rintro e w1 ⟨rfl, rfl⟩)
    refine bodyPost_ret (v := .agg #[.int .i64 1, .int .i64 f, .int .i64 x.e]) (by simp [results, Try.results75, go_sem]) rfl ⟨rfl, ?_⟩
    exact (Below.refl _ _).alloc (Nat.le_refl _) _
  · go_enter Try.func75, Try.ntmps75
    go_wp2_with (go_at_call 102; (with_reducible refine (HL.out _).mono ?_); rintro e w1 ⟨rfl, rfl⟩)
    refine bodyPost_ret (v := .agg #[.int .i64 4, .int .i64 f, .int .i64 x.p]) (by simp [results, Try.results75, go_sem]) rfl ⟨rfl, ?_⟩
    exact (Below.refl _ _).alloc (Nat.le_refl _) _
end Go.Proofs.Ytlhcjnjajkfahaa

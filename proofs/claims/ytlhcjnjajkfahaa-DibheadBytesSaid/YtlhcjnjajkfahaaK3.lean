/- The ledger as an object: its steps. -/
import Derived.Test.YtlhcjnjajkfahaaK2
namespace Go.Proofs.Ytlhcjnjajkfahaa
open Go.RowKit
set_option linter.unusedVariables false
/-- What a ledger holds: its budget, what is counted, its first refusal. -/
structure Led where
  mw : Int
  mh : Int
  mb : Int
  mx : Int
  bt : Int
  pk : Int
  st : Int
  br : Bool
  rs : Int
  ak : Int
def bi (b : Bool) : Int := if b then 1 else 0
def Led.cells (s : Led) : Array Value := #[.int .i64 s.mw, .int .i64 s.mh, .int .i64 s.mb, .int .i64 s.mx, .int .i64 s.bt, .int .i64 s.pk, .int .i64 s.st, .int .u32 (bi s.br), .int .u32 (bi s.br), .int .i32 0, .int .u32 0, .int .i64 s.rs, .int .i64 s.ak]
structure Led.ok (s : Led) : Prop where
  b0 : 0 ≤ s.bt
  b1 : s.bt ≤ s.mb
  b2 : s.mb ≤ 9223372036854775807
  s0 : 0 ≤ s.st
  s1 : s.st ≤ s.mx
  s2 : s.mx ≤ 9223372036854775807
structure LedAt (w : World) (L : Nat) (s : Led) : Prop where
  obj : Obj1 w L s.cells 148
  ok : s.ok
theorem LedAt.chg {S : Nat → Prop} {w w' : World} {L : Nat} {s : Led} (h : LedAt w L s) (hc : Chg S w w') (hn : ¬ S L) : LedAt w' L s := ⟨hc.obj h.obj hn, h.ok⟩
theorem LedAt.lt {w : World} {L : Nat} {s : Led} (h : LedAt w L s) : L < w.heap.size := h.obj.lt
def Led.refuse (s : Led) (r n : Int) : Led := { s with br := true, rs := r, ak := n }
/-- Steps that are done, if they fit. -/
def Led.work (s : Led) (n : Int) : Led × Bool := if s.br = true then (s, false) else if n < 0 ∨ s.mx - s.st < n then (s.refuse 3 n, false) else ({ s with st := s.st + n }, true)
theorem Led.work_ok {s : Led} (h : s.ok) (n : Int) : (s.work n).1.ok := by
  obtain ⟨a, b, c, d, e, f⟩ := h
  unfold Led.work
  by_cases h1 : s.br = true
  · rw [if_pos h1]; exact ⟨a, b, c, d, e, f⟩
  · rw [if_neg h1]
    by_cases h2 : n < 0 ∨ s.mx - s.st < n
    · rw [if_pos h2]; exact ⟨a, b, c, d, e, f⟩
    · rw [if_neg h2]; exact ⟨a, b, c, by show 0 ≤ s.st + n; omega, by show s.st + n ≤ s.mx; omega, f⟩
theorem cells_set6 (s : Led) (x : Int) : s.cells.setIfInBounds 6 (.int .i64 x) = { s with st := x }.cells := rfl
/-- 'add', refused. -/
theorem add_no (L o : Nat) (n most reason was : Int) (b0 b1 b2 b3 b4 b5 b6 b10 b11 b12 : Value) (T : TypeId) (w : World)
    (h : Obj1 w L #[b0, b1, b2, b3, b4, b5, b6, .int .u32 0, .int .u32 0, .int .i32 0, b10, b11, b12] T) (hc : w.cell? ⟨L, o, none⟩ = some (.int .i64 was))
    (h1 : n < 0 ∨ most - was < n) (h2 : 0 ≤ was) (h3 : was ≤ most) (h4 : most ≤ 9223372036854775807) :
    Calls Try.prog 125 #[.pointer (some ⟨L, 0, none⟩), .pointer (some ⟨L, o, none⟩), .int .i64 n, .int .i64 most, .int .i64 reason] w fun e w' =>
      e = .returned (.bool false) ∧ Obj1 w' L #[b0, b1, b2, b3, b4, b5, b6, .int .u32 1, .int .u32 1, .int .i32 0, b10, .int .i64 reason, .int .i64 n] T ∧ Chg (· = L) w w' := by
  have HB := Lib.hid (bload_f L 7 w ((h.cell 7).trans rfl))
  have HL := Lib.hid (aload64 L o was w hc)
  have HR := Lib.hid (refuse_any L reason n _ _ _ _ _ _ _ _ _ _ T w h)
  clear h hc
  by_cases hneg : n < 0
  · have G0 : decide (n < 0) = true := by rw [decide_eq_true_iff]; exact hneg
    clear h1
    go_enter Try.func125, Try.ntmps125
    go_wp2
    refine wp_loop_rounds 1 ?_
    rw [rounds_succ]
    go_wp2_with (first
      | (go_at_call 120; (with_reducible refine (HB.out).mono ?_); rintro e w1 ⟨rfl, rfl⟩)
      | (go_at_call 127; (with_reducible refine (HL.out).mono ?_); rintro e w1 ⟨rfl, rfl⟩)
      | (go_at_call 128; (with_reducible refine (HR.out).mono ?_); rintro e w1 ⟨rfl, hO, hC⟩))
    go_ret
    exact ⟨rfl, hO, hC⟩
  · have G0 : decide (n < 0) = false := by rw [decide_eq_false_iff_not]; exact hneg
    have h1 : most - was < n := by omega
    clear hneg
    go_enter Try.func125, Try.ntmps125
    go_wp2
    refine wp_loop_rounds 1 ?_
    rw [rounds_succ]
    go_wp2_with (first
      | (go_at_call 120; (with_reducible refine (HB.out).mono ?_); rintro e w1 ⟨rfl, rfl⟩)
      | (go_at_call 127; (with_reducible refine (HL.out).mono ?_); rintro e w1 ⟨rfl, rfl⟩)
      | (go_at_call 128; (with_reducible refine (HR.out).mono ?_); rintro e w1 ⟨rfl, hO, hC⟩))
    go_ret
    exact ⟨rfl, hO, hC⟩
theorem add_led (L : Nat) (s : Led) (n : Int) (w : World) (h : LedAt w L s) : Calls Try.prog 125 #[.pointer (some ⟨L, 0, none⟩), .pointer (some ⟨L, 6, none⟩), .int .i64 n, .int .i64 s.mx, .int .i64 3] w fun e w' =>
      e = .returned (.bool (s.work n).2) ∧ LedAt w' L (s.work n).1 ∧ Chg (· = L) w w' := by
  have hk := Led.work_ok h.ok n
  obtain ⟨ho, hok⟩ := h
  by_cases h1 : s.br = true
  · have e1 : s.work n = (s, false) := by unfold Led.work; rw [if_pos h1]
    rw [e1]
    refine (add_broken L 6 n s.mx 3 w ((ho.cell 7).trans (by unfold Led.cells; rw [h1]; rfl))).mono ?_
    rintro e w' ⟨rfl, rfl⟩
    exact ⟨rfl, ⟨ho, hok⟩, Chg.refl _ _⟩
  · have hf : s.br = false := by cases hb : s.br <;> simp_all
    by_cases h2 : n < 0 ∨ s.mx - s.st < n
    · have e1 : s.work n = (s.refuse 3 n, false) := by unfold Led.work; rw [if_neg h1, if_pos h2]
      rw [e1] at hk ⊢
      have ho' : Obj1 w L #[.int .i64 s.mw, .int .i64 s.mh, .int .i64 s.mb, .int .i64 s.mx, .int .i64 s.bt, .int .i64 s.pk, .int .i64 s.st, .int .u32 0, .int .u32 0, .int .i32 0, .int .u32 0, .int .i64 s.rs, .int .i64 s.ak] 148 := by
        have := ho; unfold Led.cells at this; rw [hf] at this; exact this
      refine (add_no L 6 n s.mx 3 s.st _ _ _ _ _ _ _ _ _ _ _ w ho' ((ho.cell 6).trans rfl) h2 hok.s0 hok.s1 hok.s2).mono ?_
      rintro e w' ⟨rfl, hO, hC⟩
      exact ⟨rfl, ⟨hO, hk⟩, hC⟩
    · have e1 : s.work n = ({ s with st := s.st + n }, true) := by unfold Led.work; rw [if_neg h1, if_neg h2]
      rw [e1] at hk ⊢
      refine (add_ok L 6 n s.mx 3 s.st w ((ho.cell 7).trans (by unfold Led.cells; rw [hf]; rfl)) ((ho.cell 6).trans rfl) (ho.frozen 6) (by omega) (by omega) hok.s0 hok.s1 hok.s2).mono ?_
      rintro e w' ⟨rfl, rfl⟩
      exact ⟨rfl, ⟨ho.set 6 _, hk⟩, (Chg.refl _ w).set _ _ (Or.inl rfl)⟩
set_option maxRecDepth 100000 in
theorem work_via (L : Nat) (n most : Int) (b : Bool) (R : World → Prop) (w : World) (hm : w.cell? ⟨L, 3, none⟩ = some (.int .i64 most))
    (HA : Calls Try.prog 125 #[.pointer (some ⟨L, 0, none⟩), .pointer (some ⟨L, 6, none⟩), .int .i64 n, .int .i64 most, .int .i64 3] (w.drewN 1) fun e w' => e = .returned (.bool b) ∧ R w') :
    Calls Try.prog 118 #[.pointer (some ⟨L, 0, none⟩), .int .i64 n] w fun e w' => e = .returned (.bool b) ∧ R w' := by
  have HA := Lib.hid HA
  go_enter Try.func118, Try.ntmps118
  go_wp2
  go_still_tail 10, (by kernel_rfl)
  rw [show (⟨w.heap, w.tape, w.drawn + 1, w.os, w.output⟩ : World) = w.drewN 1 from rfl]
  go_wp2_with (go_at_call 125; (with_reducible refine (HA.out).mono ?_); rintro e w1 ⟨rfl, hR⟩)
  go_ret
  exact ⟨rfl, hR⟩
theorem work_any (L : Nat) (s : Led) (n : Int) (w : World) (h : LedAt w L s) : Calls Try.prog 118 #[.pointer (some ⟨L, 0, none⟩), .int .i64 n] w fun e w' =>
      e = .returned (.bool (s.work n).2) ∧ LedAt w' L (s.work n).1 ∧ Chg (· = L) w w' := by
  have h' : LedAt (w.drewN 1) L s := ⟨h.obj.drewN 1, h.ok⟩
  refine work_via L n s.mx (s.work n).2 (fun w' => LedAt w' L (s.work n).1 ∧ Chg (· = L) w w') w ((h.obj.cell 3).trans rfl) ((add_led L s n _ h').mono ?_)
  rintro e w' ⟨rfl, hL, hC⟩
  exact ⟨rfl, hL, ((Chg.refl _ w).drewN 1).trans hC⟩
theorem broken_any (L : Nat) (s : Led) (w : World) (h : LedAt w L s) : Calls Try.prog 102 #[.pointer (some ⟨L, 0, none⟩)] w fun e w' => e = .returned (.bool s.br) ∧ w = w' := by
  have HL : Calls Try.prog 120 #[.pointer (some ⟨L, 7, none⟩)] w fun e w' => e = .returned (.bool s.br) ∧ w = w' := by
    have hc : w.cell? ⟨L, 7, none⟩ = some (.int .u32 (bi s.br)) := (h.obj.cell 7).trans rfl
    cases hb : s.br
    · rw [hb] at hc; exact bload_f L 7 w hc
    · rw [hb] at hc; exact bload_t L 7 w hc
  have HL := Lib.hid HL
  clear h
  go_enter Try.func102, Try.ntmps102
  go_wp2_with (go_at_call 120; (with_reducible refine (HL.out).mono ?_); rintro e w1 ⟨rfl, rfl⟩)
  go_ret
  exact ⟨rfl, rfl⟩
/-- A new ledger. -/
def Led.new (mw mh mb mk : Int) : Led := ⟨max mw 0, max mh 0, max mb 0, max mk 0, 0, 0, 0, false, 0, 0⟩
theorem Led.new_ok (mw mh mb mk : Int) (h1 : mb ≤ 9223372036854775807) (h2 : mk ≤ 9223372036854775807) : (Led.new mw mh mb mk).ok := by
  refine ⟨?_, ?_, ?_, ?_, ?_, ?_⟩ <;> simp only [Led.new] <;> omega
theorem obj1_new2 (w : World) (a : Obj) {cs cs' : Array Value} (T : TypeId) (h : cs = cs') : Obj1 ((w.alloc a).alloc (.cells cs T)) (w.heap.size + 1) cs' T := by
  subst h; have := obj1_new (w.alloc a) cs T; simpa using this
theorem lnew_any (mw mh mb mk : Int) (w : World) (h1 : mb ≤ 9223372036854775807) (h2 : mk ≤ 9223372036854775807) : Calls Try.prog 69 #[.agg #[.int .i64 mw, .int .i64 mh, .int .i64 mb, .int .i64 mk]] w fun e w' =>
      ∃ L, e = .returned (.pointer (some ⟨L, 0, none⟩)) ∧ LedAt w' L (Led.new mw mh mb mk) ∧ w.heap.size ≤ L ∧ Chg (fun _ => False) w w' := by
  have hk := Led.new_ok mw mh mb mk h1 h2
  have HK := Lib.hid hk
  clear hk h1 h2
  go_enter Try.func69, Try.ntmps69
  go_wp2
  all_goals
    go_ret
    exact ⟨w.heap.size + 1, rfl, ⟨obj1_new2 _ _ _ (by simp [Led.cells, Led.new, bi]; omega), HK.out⟩, by omega, ((Chg.refl _ w).alloc _).alloc _⟩
end Go.Proofs.Ytlhcjnjajkfahaa

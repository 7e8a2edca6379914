/- The ledger's bytes and sides, walked. -/
import Derived.Test.YtlfbaggcfaenlaaGreatK0
import Derived.Test.YtlfbaggcfaenlaaGreatK1
namespace Go.Proofs.YtlfbaggcfaenlaaGreat
open Go.RowKit
set_option linter.unusedVariables false
set_option linter.unusedSimpArgs false
/-- Bytes that are kept, if they fit. -/
def Led.take (s : Led) (n : Int) : Led × Bool := if s.br = true then (s, false) else if n < 0 ∨ s.mb - s.bt < n then (s.refuse 2 n, false) else ({ s with bt := s.bt + n, pk := if s.bt + n ≤ s.pk then s.pk else s.bt + n }, true)
theorem Led.take_ok {s : Led} (h : s.ok) (n : Int) : (s.take n).1.ok := by
  obtain ⟨a, b, c, d, e, f⟩ := h
  unfold Led.take
  by_cases h1 : s.br = true
  · rw [if_pos h1]; exact ⟨a, b, c, d, e, f⟩
  · rw [if_neg h1]
    by_cases h2 : n < 0 ∨ s.mb - s.bt < n
    · rw [if_pos h2]; exact ⟨a, b, c, d, e, f⟩
    · rw [if_neg h2]; exact ⟨by show 0 ≤ s.bt + n; omega, by show s.bt + n ≤ s.mb; omega, c, d, e, f⟩
set_option maxRecDepth 100000 in
theorem take_no (L : Nat) (n most : Int) (R : World → Prop) (w : World) (hm : w.cell? ⟨L, 2, none⟩ = some (.int .i64 most))
    (HA : Calls Tryz.prog 216 #[.pointer (some ⟨L, 0, none⟩), .pointer (some ⟨L, 4, none⟩), .int .i64 n, .int .i64 most, .int .i64 2] (w.drewN 1) fun e w' => e = .returned (.bool false) ∧ R w') :
    Calls Tryz.prog 151 #[.pointer (some ⟨L, 0, none⟩), .int .i64 n] w fun e w' => e = .returned (.bool false) ∧ R w' := by
  have HA := Lib.hid HA
  go_enter Tryz.func151, Tryz.ntmps151
  go_wp2
  go_still_tail 10, (by kernel_rfl)
  rw [show (⟨w.heap, w.tape, w.drawn + 1, w.os, w.output⟩ : World) = w.drewN 1 from rfl]
  go_wp2_with (go_at_call 216; (with_reducible refine (HA.out).mono ?_); rintro e w1 ⟨rfl, hR⟩)
  go_ret
  exact ⟨rfl, hR⟩
set_option maxRecDepth 100000 in
theorem take_yes (L : Nat) (n most bt pk : Int) (w : World) (hm : w.cell? ⟨L, 2, none⟩ = some (.int .i64 most)) (w1 : World)
    (HA : Calls Tryz.prog 216 #[.pointer (some ⟨L, 0, none⟩), .pointer (some ⟨L, 4, none⟩), .int .i64 n, .int .i64 most, .int .i64 2] (w.drewN 1) fun e w' => e = .returned (.bool true) ∧ w1 = w')
    (hb : w1.cell? ⟨L, 4, none⟩ = some (.int .i64 bt)) (hp : w1.cell? ⟨L, 5, none⟩ = some (.int .i64 pk)) (hf : w1.frozen? ⟨L, 5, none⟩ = false) :
    Calls Tryz.prog 151 #[.pointer (some ⟨L, 0, none⟩), .int .i64 n] w fun e w' => e = .returned (.bool true) ∧ ∃ k, w' = if bt ≤ pk then w1.drewN k else (w1.drewN k).setCell ⟨L, 5, none⟩ (.int .i64 bt) := by
  have HA := Lib.hid HA
  have HB := Lib.hid (fun w0 (h : w0.cell? ⟨L, 4, none⟩ = some (.int .i64 bt)) => (aload64 L 4 bt w0 h).mono (R' := fun e w' => e = .returned (.int .i64 bt) ∧ w' = w0) fun e w' hh => ⟨hh.1, hh.2.symm⟩)
  have HP := Lib.hid (fun w0 (h : w0.cell? ⟨L, 5, none⟩ = some (.int .i64 pk)) => (aload64 L 5 pk w0 h).mono (R' := fun e w' => e = .returned (.int .i64 pk) ∧ w' = w0) fun e w' hh => ⟨hh.1, hh.2.symm⟩)
  have HC := Lib.hid (fun w0 (h : w0.cell? ⟨L, 5, none⟩ = some (.int .i64 pk)) (hz : w0.frozen? ⟨L, 5, none⟩ = false) => acas64 L 5 pk bt w0 h hz)
  go_enter Tryz.func151, Tryz.ntmps151
  go_wp2
  go_still_tail 10, (by kernel_rfl)
  rw [show (⟨w.heap, w.tape, w.drawn + 1, w.os, w.output⟩ : World) = w.drewN 1 from rfl]
  go_wp2_with (go_at_call 216; (with_reducible refine (HA.out).mono ?_); rintro e w2 ⟨rfl, rfl⟩)
  refine wp_loop_rounds 1 ?_
  rw [rounds_succ]
  go_upto_region 3 with (fail)
  go_quiet ((first
    | (go_at_call 80; exact Calls.quiet_of_same (HB.out _ (by exact hb)))
    | (go_at_call 80; exact Calls.quiet_of_same (HP.out _ (by exact hp)))))
  by_cases hle : bt ≤ pk
  · go_wp2_with ((with_reducible refine skip_g rfl ?_ ?_); rfl; intro _)
    go_ret
    exact ⟨rfl, _, by first | rfl | (rw [if_pos hle])⟩
  · go_wp2_with (first
      | ((with_reducible refine skip_g rfl ?_ ?_); rfl; intro _)
      | (go_at_call 217; (with_reducible refine (HC.out _ (by rw [World.cell?_drewN]; exact hp) (by rw [World.frozen?_drewN]; exact hf)).mono ?_); rintro e w3 ⟨rfl, rfl⟩))
    go_ret
    exact ⟨rfl, _, by first | rfl | (rw [if_neg hle])⟩
theorem ltake_any (L : Nat) (s : Led) (n : Int) (w : World) (h : LedAt w L s) : Calls Tryz.prog 151 #[.pointer (some ⟨L, 0, none⟩), .int .i64 n] w fun e w' =>
      e = .returned (.bool (s.take n).2) ∧ LedAt w' L (s.take n).1 ∧ Chg (· = L) w w' := by
  have hk := Led.take_ok h.ok n
  have h' : LedAt (w.drewN 1) L s := ⟨h.obj.drewN 1, h.ok⟩
  obtain ⟨ho, hok⟩ := h
  have ho1 := ho.drewN 1
  by_cases h1 : s.br = true
  · have e1 : s.take n = (s, false) := by unfold Led.take; rw [if_pos h1]
    rw [e1]
    refine take_no L n s.mb (fun w' => LedAt w' L s ∧ Chg (· = L) w w') w ((ho.cell 2).trans rfl) ((add_broken L 4 n s.mb 2 _ ((ho1.cell 7).trans (by unfold Led.cells; rw [h1]; rfl))).mono ?_)
    rintro e w' ⟨rfl, rfl⟩
    exact ⟨rfl, h', (Chg.refl _ w).drewN 1⟩
  · have hf : s.br = false := by cases hb : s.br <;> simp_all
    by_cases h2 : n < 0 ∨ s.mb - s.bt < n
    · have e1 : s.take n = (s.refuse 2 n, false) := by unfold Led.take; rw [if_neg h1, if_pos h2]
      rw [e1] at hk ⊢
      have ho' : Obj1 (w.drewN 1) L #[.int .i64 s.mw, .int .i64 s.mh, .int .i64 s.mb, .int .i64 s.mx, .int .i64 s.bt, .int .i64 s.pk, .int .i64 s.st, .int .u32 0, .int .u32 0, .int .i32 0, .int .u32 0, .int .i64 s.rs, .int .i64 s.ak] 125 := by
        have := ho1; unfold Led.cells at this; rw [hf] at this; exact this
      refine take_no L n s.mb (fun w' => LedAt w' L (s.refuse 2 n) ∧ Chg (· = L) w w') w ((ho.cell 2).trans rfl) ((add_no L 4 n s.mb 2 s.bt _ _ _ _ _ _ _ _ _ _ _ _ ho' ((ho1.cell 4).trans rfl) h2 hok.b0 hok.b1 hok.b2).mono ?_)
      rintro e w' ⟨rfl, hO, hC⟩
      exact ⟨rfl, ⟨hO, hk⟩, ((Chg.refl _ w).drewN 1).trans hC⟩
    · have e1 : s.take n = ({ s with bt := s.bt + n, pk := if s.bt + n ≤ s.pk then s.pk else s.bt + n }, true) := by unfold Led.take; rw [if_neg h1, if_neg h2]
      rw [e1] at hk ⊢
      have ho2 := ho1.set 4 (.int .i64 (s.bt + n))
      refine (take_yes L n s.mb (s.bt + n) s.pk w ((ho.cell 2).trans rfl) _ (add_ok L 4 n s.mb 2 s.bt _ ((ho1.cell 7).trans (by unfold Led.cells; rw [hf]; rfl)) ((ho1.cell 4).trans rfl) (ho1.frozen 4) (by omega) (by omega) hok.b0 hok.b1 hok.b2) ((ho2.cell 4).trans rfl) ((ho2.cell 5).trans rfl) (ho2.frozen 5)).mono ?_
      rintro e w' ⟨rfl, k, rfl⟩
      refine ⟨rfl, ?_, ?_⟩
      · by_cases hle : s.bt + n ≤ s.pk
        · rw [if_pos hle] at hk ⊢
          rw [if_pos hle]
          exact ⟨ho2.drewN k, hk⟩
        · rw [if_neg hle] at hk ⊢
          rw [if_neg hle]
          exact ⟨(ho2.drewN k).set 5 _, hk⟩
      · have hc : Chg (· = L) w ((w.drewN 1).setCell ⟨L, 4, none⟩ (.int .i64 (s.bt + n))) := ((Chg.refl _ w).drewN 1).set _ _ (Or.inl rfl)
        split
        · exact hc.drewN k
        · exact (hc.drewN k).set _ _ (Or.inl rfl)
/-- Sides that are let. -/
def Led.sides (s : Led) (a b : Int) : Led × Bool := if s.br = true then (s, false) else if a < 1 ∨ s.mw < a then (s.refuse 1 a, false) else if b < 1 ∨ s.mh < b then (s.refuse 1 b, false) else (s, true)
set_option maxRecDepth 100000 in
set_option maxHeartbeats 4000000 in
theorem lsides_any (L : Nat) (s : Led) (a b : Int) (w : World) (h : LedAt w L s) : Calls Tryz.prog 77 #[.pointer (some ⟨L, 0, none⟩), .int .i64 a, .int .i64 b] w fun e w' =>
      e = .returned (.bool (s.sides a b).2) ∧ LedAt w' L (s.sides a b).1 ∧ Chg (· = L) w w' := by
  have hok := h.ok
  have c0 : w.cell? ⟨L, 0, none⟩ = some (.int .i64 s.mw) := (h.obj.cell 0).trans rfl
  have c1 : w.cell? ⟨L, 1, none⟩ = some (.int .i64 s.mh) := (h.obj.cell 1).trans rfl
  have H := Lib.hid h
  unfold Led.sides
  cases hb : s.br with
  | true =>
    rw [if_pos rfl]
    have HB := Lib.hid (bload_t L 7 w ((h.obj.cell 7).trans (by unfold Led.cells; rw [hb]; rfl)))
    clear h hb
    go_enter Tryz.func77, Tryz.ntmps77
    go_wp2_with (go_at_call 119; (with_reducible refine (HB.out).mono ?_); rintro e w1 ⟨rfl, rfl⟩)
    go_ret
    exact ⟨rfl, H.out, Chg.refl _ _⟩
  | false =>
    rw [if_neg (by decide)]
    have HB := Lib.hid (bload_f L 7 w ((h.obj.cell 7).trans (by unfold Led.cells; rw [hb]; rfl)))
    have ho' : Obj1 w L #[.int .i64 s.mw, .int .i64 s.mh, .int .i64 s.mb, .int .i64 s.mx, .int .i64 s.bt, .int .i64 s.pk, .int .i64 s.st, .int .u32 0, .int .u32 0, .int .i32 0, .int .u32 0, .int .i64 s.rs, .int .i64 s.ak] 125 := by
      have := h.obj; unfold Led.cells at this; rw [hb] at this; exact this
    have HR := Lib.hid (fun n => (refuse_any L 1 n _ _ _ _ _ _ _ _ _ _ _ w ho').mono (R' := fun e w' => e = .returned (.bool false) ∧ LedAt w' L (s.refuse 1 n) ∧ Chg (· = L) w w') fun e w' hh => ⟨hh.1, ⟨hh.2.1, hok.b0, hok.b1, hok.b2, hok.s0, hok.s1, hok.s2⟩, hh.2.2⟩)
    obtain ⟨mw, hmw⟩ : ∃ m, s.mw = m := ⟨_, rfl⟩
    obtain ⟨mh, hmh⟩ : ∃ m, s.mh = m := ⟨_, rfl⟩
    rw [hmw] at c0
    rw [hmh] at c1
    rw [hmw, hmh]
    clear h hb ho' hok hmw hmh
    have hcase : (a < 1) ∨ (¬ a < 1 ∧ mw < a) ∨ (¬ a < 1 ∧ ¬ mw < a ∧ b < 1) ∨ (¬ a < 1 ∧ ¬ mw < a ∧ ¬ b < 1 ∧ mh < b) ∨ (¬ a < 1 ∧ ¬ mw < a ∧ ¬ b < 1 ∧ ¬ mh < b) := by omega
    rcases hcase with h1 | ⟨h1, h2⟩ | ⟨h1, h2, h3⟩ | ⟨h1, h2, h3, h4⟩ | ⟨h1, h2, h3, h4⟩
    · rw [if_pos (Or.inl h1)]
      go_enter Tryz.func77, Tryz.ntmps77
      go_wp2_with (first
        | ((with_reducible refine skip_g rfl ?_ ?_); rfl; intro _)
        | (go_at_call 119; (with_reducible refine (HB.out).mono ?_); rintro e w1 ⟨rfl, rfl⟩)
        | (go_at_call 148; (with_reducible refine (HR.out _).mono ?_); rintro e w1 ⟨rfl, hO, hC⟩))
      go_ret
      exact ⟨rfl, hO, hC⟩
    · rw [if_pos (Or.inr h2)]
      go_enter Tryz.func77, Tryz.ntmps77
      go_wp2_with (first
        | ((with_reducible refine skip_g rfl ?_ ?_); rfl; intro _)
        | (go_at_call 119; (with_reducible refine (HB.out).mono ?_); rintro e w1 ⟨rfl, rfl⟩)
        | (go_at_call 148; (with_reducible refine (HR.out _).mono ?_); rintro e w1 ⟨rfl, hO, hC⟩))
      go_ret
      exact ⟨rfl, hO, hC⟩
    · rw [if_neg (by omega), if_pos (Or.inl h3)]
      go_enter Tryz.func77, Tryz.ntmps77
      go_wp2_with (first
        | ((with_reducible refine skip_g rfl ?_ ?_); rfl; intro _)
        | (go_at_call 119; (with_reducible refine (HB.out).mono ?_); rintro e w1 ⟨rfl, rfl⟩)
        | (go_at_call 148; (with_reducible refine (HR.out _).mono ?_); rintro e w1 ⟨rfl, hO, hC⟩))
      go_ret
      exact ⟨rfl, hO, hC⟩
    · rw [if_neg (by omega), if_pos (Or.inr h4)]
      go_enter Tryz.func77, Tryz.ntmps77
      go_wp2_with (first
        | ((with_reducible refine skip_g rfl ?_ ?_); rfl; intro _)
        | (go_at_call 119; (with_reducible refine (HB.out).mono ?_); rintro e w1 ⟨rfl, rfl⟩)
        | (go_at_call 148; (with_reducible refine (HR.out _).mono ?_); rintro e w1 ⟨rfl, hO, hC⟩))
      go_ret
      exact ⟨rfl, hO, hC⟩
    · rw [if_neg (by omega), if_neg (by omega)]
      go_enter Tryz.func77, Tryz.ntmps77
      go_wp2_with (first
        | ((with_reducible refine skip_g rfl ?_ ?_); rfl; intro _)
        | (go_at_call 119; (with_reducible refine (HB.out).mono ?_); rintro e w1 ⟨rfl, rfl⟩))
      go_ret
      exact ⟨rfl, H.out, Chg.refl _ _⟩
/-- Bytes that are given back. -/
def Led.give (s : Led) (n : Int) : Led × Bool := if n < 0 ∨ s.bt < n then (s, false) else ({ s with bt := s.bt - n }, true)
theorem Led.give_ok {s : Led} (h : s.ok) (n : Int) : (s.give n).1.ok := by
  obtain ⟨a, b, c, d, e, f⟩ := h
  unfold Led.give
  by_cases h2 : n < 0 ∨ s.bt < n
  · rw [if_pos h2]; exact ⟨a, b, c, d, e, f⟩
  · rw [if_neg h2]; exact ⟨by show 0 ≤ s.bt - n; omega, by show s.bt - n ≤ s.mb; omega, c, d, e, f⟩
set_option maxRecDepth 100000 in
set_option maxHeartbeats 4000000 in
theorem give_any (L : Nat) (s : Led) (n : Int) (w : World) (h : LedAt w L s) : Calls Tryz.prog 210 #[.pointer (some ⟨L, 0, none⟩), .int .i64 n] w fun e w' =>
      e = .returned (.bool (s.give n).2) ∧ LedAt w' L (s.give n).1 ∧ Chg (· = L) w w' := by
  have hk := Led.give_ok h.ok n
  have HL := Lib.hid (aload64 L 4 s.bt w ((h.obj.cell 4).trans rfl))
  have HC := Lib.hid (fun y => acas64 L 4 s.bt y w ((h.obj.cell 4).trans rfl) (h.obj.frozen 4))
  have H := Lib.hid h
  have hb0 := h.ok.b0
  have hb1 := h.ok.b1
  have hb2 := h.ok.b2
  have FIN := Lib.hid (fun (hh : ¬ (n < 0 ∨ s.bt < n)) => (show LedAt (w.setCell ⟨L, 4, none⟩ (.int .i64 (s.bt - n))) L (s.give n).1 from ⟨by unfold Led.give; rw [if_neg hh]; exact h.obj.set 4 _, hk⟩))
  have CH := Lib.hid (fun v => (Chg.refl (· = L) w).set ⟨L, 4, none⟩ v (Or.inl rfl))
  have h' : (n < 0 ∨ s.bt < n) → (s.give n) = (s, false) := fun hh => by unfold Led.give; rw [if_pos hh]
  have h2' : ¬ (n < 0 ∨ s.bt < n) → (s.give n).2 = true := fun hh => by unfold Led.give; rw [if_neg hh]
  have HN := Lib.hid h'
  have HY := Lib.hid h2'
  clear h' h2' hk h
  obtain ⟨bt, hbt⟩ : ∃ b, s.bt = b := ⟨_, rfl⟩
  rw [hbt] at HL HC hb0 hb1 HN HY FIN
  clear hbt
  have hcase : (n < 0) ∨ (¬ n < 0 ∧ bt < n) ∨ (¬ n < 0 ∧ ¬ bt < n) := by omega
  rcases hcase with h1 | ⟨h1, h2⟩ | ⟨h1, h2⟩
  · rw [HN.out (Or.inl h1)]
    go_enter Tryz.func210, Tryz.ntmps210
    go_wp2
    refine wp_loop_rounds 1 ?_
    rw [rounds_succ]
    go_wp2_with (first
      | ((with_reducible refine skip_g rfl ?_ ?_); rfl; intro _)
      | (go_at_call 80; (with_reducible refine (HL.out).mono ?_); rintro e w1 ⟨rfl, rfl⟩))
    go_ret
    exact ⟨rfl, H.out, Chg.refl _ _⟩
  · rw [HN.out (Or.inr h2)]
    go_enter Tryz.func210, Tryz.ntmps210
    go_wp2
    refine wp_loop_rounds 1 ?_
    rw [rounds_succ]
    go_wp2_with (first
      | ((with_reducible refine skip_g rfl ?_ ?_); rfl; intro _)
      | (go_at_call 80; (with_reducible refine (HL.out).mono ?_); rintro e w1 ⟨rfl, rfl⟩))
    go_ret
    exact ⟨rfl, H.out, Chg.refl _ _⟩
  · rw [HY.out (by omega)]
    have FIN := Lib.hid (FIN.out (by omega))
    go_enter Tryz.func210, Tryz.ntmps210
    go_wp2
    refine wp_loop_rounds 1 ?_
    rw [rounds_succ]
    go_wp2_with (first
      | ((with_reducible refine skip_g rfl ?_ ?_); rfl; intro _)
      | (go_at_call 80; (with_reducible refine (HL.out).mono ?_); rintro e w1 ⟨rfl, rfl⟩)
      | (go_at_call 217; (with_reducible refine (HC.out _).mono ?_); rintro e w3 ⟨rfl, rfl⟩))
    go_ret
    exact ⟨rfl, FIN.out, CH.out _⟩
end Go.Proofs.YtlfbaggcfaenlaaGreat


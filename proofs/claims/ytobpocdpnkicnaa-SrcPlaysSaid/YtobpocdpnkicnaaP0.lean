/- The reference of layer 2: steps, walked. -/
import Derived.Test.YtobpocdpnkicnaaS7
namespace Go.Proofs.Ytobpocdpnkicnaa
open Go.RowKit
set_option linter.unusedVariables false
/-- The document's ledger, out of the program's. -/
def rcells (l : Led) : List Value := [.int .i64 l.mw, .int .i64 l.mh, .int .i64 l.mb, .int .i64 l.mx, .int .i64 l.bt, .int .i64 l.pk, .int .i64 l.st, .int .i64 l.rs, .int .i64 l.ak]
theorem nought_any (v : Int) (w : World) : Calls Try.prog 92 #[.int .i64 v] w fun e w' => e = .returned (.int .i64 (max v 0)) ∧ w = w' := by
  by_cases h : v < 0
  · have E := Lib.hid (show (0 : Int) = max v 0 by omega)
    go_enter Try.func92, Try.ntmps92
    go_wp2
    go_ret
    exact ⟨ret_int E.out, rfl⟩
  · have E := Lib.hid (show v = max v 0 by omega)
    go_enter Try.func92, Try.ntmps92
    go_wp2
    go_ret
    exact ⟨ret_int E.out, rfl⟩
set_option maxHeartbeats 1000000 in
theorem rrefuse_any (a0 a1 a2 a3 a4 a5 a6 a8 r n : Int) (w : World) : Calls Try.prog 115 #[.agg #[.int .i64 a0, .int .i64 a1, .int .i64 a2, .int .i64 a3, .int .i64 a4, .int .i64 a5, .int .i64 a6, .int .i64 0, .int .i64 a8], .int .i64 r, .int .i64 n] w fun e w' =>
      e = .returned (.tuple #[.agg #[.int .i64 a0, .int .i64 a1, .int .i64 a2, .int .i64 a3, .int .i64 a4, .int .i64 a5, .int .i64 a6, .int .i64 r, .int .i64 n], .bool false]) ∧ Below w.heap.size w w' := by
  go_enter Try.func115, Try.ntmps115
  go_wp2
  exact bodyPost_ret (v := .tuple #[.agg #[.int .i64 a0, .int .i64 a1, .int .i64 a2, .int .i64 a3, .int .i64 a4, .int .i64 a5, .int .i64 a6, .int .i64 r, .int .i64 n], .bool false]) (by simp [results, Try.results115, go_sem]) rfl ⟨rfl, ((Below.refl _ _).alloc (Nat.le_refl _) _).alloc (by simp) _⟩
theorem rnew_any (n : Int) (w : World) : Calls Try.prog 64 #[.int .i64 0, .int .i64 0, .int .i64 0, .int .i64 n] w fun e w' => e = .returned (.agg #[.int .i64 0, .int .i64 0, .int .i64 0, .int .i64 (max n 0), .int .i64 0, .int .i64 0, .int .i64 0, .int .i64 0, .int .i64 0]) ∧ Below w.heap.size w w' := by
  obtain ⟨m, hm⟩ : ∃ m, max n 0 = m := ⟨_, rfl⟩
  have H0 := Lib.hid (fun w0 => (nought_any 0 w0).mono (R' := fun e w' => e = .returned (.int .i64 0) ∧ w0 = w') fun e w' hh => hh)
  have HN := Lib.hid (fun w0 => (nought_any n w0).mono (R' := fun e w' => e = .returned (.int .i64 m) ∧ w0 = w') fun e w' hh => by rw [hm] at hh; exact hh)
  rw [hm]
  clear hm
  go_enter Try.func64, Try.ntmps64
  go_wp2_with (first
    | (go_at_call 92; (with_reducible refine (H0.out _).mono ?_); rintro e w1 ⟨rfl, rfl⟩)
    | (go_at_call 92; (with_reducible refine (HN.out _).mono ?_); rintro e w1 ⟨rfl, rfl⟩))
  exact bodyPost_ret (v := .agg #[.int .i64 0, .int .i64 0, .int .i64 0, .int .i64 m, .int .i64 0, .int .i64 0, .int .i64 0, .int .i64 0, .int .i64 0]) (by simp [results, Try.results64, go_sem]) rfl ⟨rfl, (Below.refl _ _).alloc (Nat.le_refl _) _⟩
def rWork (l : Led) (n : Int) (e : Ending) : Prop := e = .returned (.tuple #[.agg (rcells (l.work n).1).toArray, .bool (l.work n).2])
set_option maxHeartbeats 1000000 in
theorem rwork_any (l : Led) (n : Int) (w : World) (hi : l.br = true ↔ l.rs ≠ 0) (hok : l.ok) : Calls Try.prog 110 #[.agg (rcells l).toArray, .int .i64 n] w fun e w' => rWork l n e ∧ Below w.heap.size w w' := by
  obtain ⟨mw, mh, mb, mx, bt, pk, st, br, rs, ak⟩ := l
  have s0 : 0 ≤ st := hok.s0
  have s1 : st ≤ mx := hok.s1
  have s2 : mx ≤ 9223372036854775807 := hok.s2
  clear hok
  unfold rWork Led.work rcells
  simp only at hi ⊢
  by_cases hb : br = true
  · have hr : (rs != 0) = true := by rw [bne_iff_ne]; exact hi.1 hb
    rw [if_pos hb]
    clear hi hb
    go_enter Try.func110, Try.ntmps110
    go_wp2
    exact bodyPost_ret (v := .tuple #[.agg #[.int .i64 mw, .int .i64 mh, .int .i64 mb, .int .i64 mx, .int .i64 bt, .int .i64 pk, .int .i64 st, .int .i64 rs, .int .i64 ak], .bool false]) (by simp [results, Try.results110, go_sem]) rfl ⟨rfl, ((Below.refl _ _).alloc (Nat.le_refl _) _).alloc (by simp) _⟩
  · obtain rfl : rs = 0 := Decidable.not_not.1 (fun h => hb (hi.2 h))
    rw [if_neg hb]
    clear hi
    by_cases h2 : n < 0 ∨ mx - st < n
    · rw [if_pos h2]
      have F1 : ∀ T, Slot (w.heap.size + 1) 9 ((w.alloc (.cells #[.int .i64 mw, .int .i64 mh, .int .i64 mb, .int .i64 mx, .int .i64 bt, .int .i64 pk, .int .i64 st, .int .i64 0, .int .i64 ak] T)).alloc (.cells #[.int .i64 0, .int .i64 0, .int .i64 0, .int .i64 0, .int .i64 0, .int .i64 0, .int .i64 0, .int .i64 0, .int .i64 0] T)) := fun T => slot_alloc' (by simp) rfl
      have HF1 := Lib.hid (F1 102)
      have HB0 := Lib.hid (fun T => (((Below.refl w.heap.size w).alloc (Nat.le_refl _) (.cells #[.int .i64 mw, .int .i64 mh, .int .i64 mb, .int .i64 mx, .int .i64 bt, .int .i64 pk, .int .i64 st, .int .i64 0, .int .i64 ak] T)).alloc (by simp) (.cells #[.int .i64 0, .int .i64 0, .int .i64 0, .int .i64 0, .int .i64 0, .int .i64 0, .int .i64 0, .int .i64 0, .int .i64 0] T)))
      clear F1
      rcases (show n < 0 ∨ (0 ≤ n ∧ mx - st < n) by omega) with hn | ⟨h0, hn⟩
      · have G0 : decide (n < 0) = true := by rw [decide_eq_true_iff]; exact hn
        clear h2
        go_enter Try.func110, Try.ntmps110
        go_wp2_with (first
          | ((go_at_call 115; (with_reducible refine (rrefuse_any _ _ _ _ _ _ _ _ _ _ _).mono ?_); rintro e w1 ⟨rfl, hb1⟩); have S1 := Lib.hid (slot_next HF1.out hb1 (by simp)); have hbw := Lib.hid (bthen hb1 (HB0.out _) (by simp; omega)); clear hb1)
          | (refine store_gen rfl 102 (.tmp 4) (.tmp 24) rfl (w.heap.size + 1) 0 #[.int .i64 mw, .int .i64 mh, .int .i64 mb, .int .i64 mx, .int .i64 bt, .int .i64 pk, .int .i64 st, .int .i64 3, .int .i64 n] rfl rfl (slot_there S1.out) (by kernel_rfl) rfl ?_; intro w2 hst; have R := Lib.hid (hst.range (slot_there S1.out)); have B := Lib.hid (hst.below hbw.out (by omega)); clear hst))
        refine bodyPost_ret (v := .tuple #[.agg #[.int .i64 mw, .int .i64 mh, .int .i64 mb, .int .i64 mx, .int .i64 bt, .int .i64 pk, .int .i64 st, .int .i64 3, .int .i64 n], .bool false]) ?_ rfl ⟨rfl, B.out⟩
        exact results_c1 Try.results110 _ _ _ _ _ rfl R.out Try.underlying102 rfl (by kernel_rfl)
      · have G0 : decide (n < 0) = false := by rw [decide_eq_false_iff_not]; omega
        clear h2
        go_enter Try.func110, Try.ntmps110
        go_wp2_with (first
          | ((go_at_call 115; (with_reducible refine (rrefuse_any _ _ _ _ _ _ _ _ _ _ _).mono ?_); rintro e w1 ⟨rfl, hb1⟩); have S1 := Lib.hid (slot_next HF1.out hb1 (by simp)); have hbw := Lib.hid (bthen hb1 (HB0.out _) (by simp; omega)); clear hb1)
          | (refine store_gen rfl 102 (.tmp 4) (.tmp 24) rfl (w.heap.size + 1) 0 #[.int .i64 mw, .int .i64 mh, .int .i64 mb, .int .i64 mx, .int .i64 bt, .int .i64 pk, .int .i64 st, .int .i64 3, .int .i64 n] rfl rfl (slot_there S1.out) (by kernel_rfl) rfl ?_; intro w2 hst; have R := Lib.hid (hst.range (slot_there S1.out)); have B := Lib.hid (hst.below hbw.out (by omega)); clear hst))
        refine bodyPost_ret (v := .tuple #[.agg #[.int .i64 mw, .int .i64 mh, .int .i64 mb, .int .i64 mx, .int .i64 bt, .int .i64 pk, .int .i64 st, .int .i64 3, .int .i64 n], .bool false]) ?_ rfl ⟨rfl, B.out⟩
        exact results_c1 Try.results110 _ _ _ _ _ rfl R.out Try.underlying102 rfl (by kernel_rfl)
    · rw [if_neg h2]
      have h0 : 0 ≤ n := by omega
      have h1 : n ≤ mx - st := by omega
      have G0 : decide (n < 0) = false := by rw [decide_eq_false_iff_not]; omega
      clear h2
      go_enter Try.func110, Try.ntmps110
      go_wp2
      exact bodyPost_ret (v := .tuple #[.agg #[.int .i64 mw, .int .i64 mh, .int .i64 mb, .int .i64 mx, .int .i64 bt, .int .i64 pk, .int .i64 (st + n), .int .i64 0, .int .i64 ak], .bool true]) (by simp [results, Try.results110, go_sem]) rfl ⟨rfl, ((Below.refl _ _).alloc (Nat.le_refl _) _).alloc (by simp) _⟩
end Go.Proofs.Ytobpocdpnkicnaa

/- Atomics of the ledger, walked. -/
import Derived.Test.YtlhcjnjajkfahaaProg
import Derived.Test.YtlhcjnjajkfahaaS0
import Derived.Laws.LoneSync
import Derived.RegionCalls
import Derived.Defers
import Derived.StillTailTactics
namespace Go.Proofs.Ytlhcjnjajkfahaa
open Go.RowKit
set_option linter.unusedVariables false
theorem aload64 (L o : Nat) (v : Int) (w : World) (hc : w.cell? ⟨L, o, none⟩ = some (.int .i64 v)) : Calls Try.prog 127 #[.pointer (some ⟨L, o, none⟩)] w fun e w' => e = .returned (.int .i64 v) ∧ w = w' := by
  have hl := run_call_load (P := Try.prog) Try.func130 (by kernel_rfl) (by kernel_rfl) (by kernel_rfl) .i64 (by kernel_rfl) hc
  go_enter Try.func127, Try.ntmps127
  go_wp2
  go_ret
  exact ⟨rfl, rfl⟩
theorem bload_f (L o : Nat) (w : World) (hc : w.cell? ⟨L, o, none⟩ = some (.int .u32 0)) : Calls Try.prog 120 #[.pointer (some ⟨L, o, none⟩)] w fun e w' => e = .returned (.bool false) ∧ w = w' := by
  have hl := run_call_load (P := Try.prog) Try.func126 (by kernel_rfl) (by kernel_rfl) (by kernel_rfl) .u32 (by kernel_rfl) hc
  go_enter Try.func120, Try.ntmps120
  go_wp2
  go_ret
  exact ⟨rfl, rfl⟩
theorem bload_t (L o : Nat) (w : World) (hc : w.cell? ⟨L, o, none⟩ = some (.int .u32 1)) : Calls Try.prog 120 #[.pointer (some ⟨L, o, none⟩)] w fun e w' => e = .returned (.bool true) ∧ w = w' := by
  have hl := run_call_load (P := Try.prog) Try.func126 (by kernel_rfl) (by kernel_rfl) (by kernel_rfl) .u32 (by kernel_rfl) hc
  go_enter Try.func120, Try.ntmps120
  go_wp2
  go_ret
  exact ⟨rfl, rfl⟩
theorem acas64 (L o : Nat) (v y : Int) (w : World) (hc : w.cell? ⟨L, o, none⟩ = some (.int .i64 v)) (hz : w.frozen? ⟨L, o, none⟩ = false) :
    Calls Try.prog 129 #[.pointer (some ⟨L, o, none⟩), .int .i64 v, .int .i64 y] w fun e w' => e = .returned (.bool true) ∧ w.setCell ⟨L, o, none⟩ (.int .i64 y) = w' := by
  have hcas := run_call_cas_hit (P := Try.prog) Try.func134 (by kernel_rfl) (by kernel_rfl) (by kernel_rfl) .i64 (by kernel_rfl) (y := y) hc hz
  go_enter Try.func129, Try.ntmps129
  go_wp2
  go_ret
  exact ⟨rfl, rfl⟩
/-- 'add', the ledger not broken, the count within its bound. -/
theorem add_ok (L o : Nat) (n most reason was : Int) (w : World) (hbr : w.cell? ⟨L, 7, none⟩ = some (.int .u32 0)) (hc : w.cell? ⟨L, o, none⟩ = some (.int .i64 was)) (hz : w.frozen? ⟨L, o, none⟩ = false)
    (h0 : 0 ≤ n) (h1 : n ≤ most - was) (h2 : 0 ≤ was) (h3 : was ≤ most) (h4 : most ≤ 9223372036854775807) :
    Calls Try.prog 125 #[.pointer (some ⟨L, 0, none⟩), .pointer (some ⟨L, o, none⟩), .int .i64 n, .int .i64 most, .int .i64 reason] w fun e w' => e = .returned (.bool true) ∧ w.setCell ⟨L, o, none⟩ (.int .i64 (was + n)) = w' := by
  go_enter Try.func125, Try.ntmps125
  go_wp2
  refine wp_loop_rounds 1 ?_
  rw [rounds_succ]
  go_wp2_with (first
    | (go_at_call 120; (with_reducible refine (bload_f _ _ _ (by assumption)).mono ?_); rintro e w1 ⟨rfl, rfl⟩)
    | (go_at_call 127; (with_reducible refine (aload64 _ _ _ _ (by assumption)).mono ?_); rintro e w1 ⟨rfl, rfl⟩)
    | (go_at_call 129; (with_reducible refine (acas64 _ _ _ _ _ (by assumption) (by assumption)).mono ?_); rintro e w1 ⟨rfl, rfl⟩))
  go_ret
  exact ⟨rfl, rfl⟩
theorem add_broken (L o : Nat) (n most reason : Int) (w : World) (hbr : w.cell? ⟨L, 7, none⟩ = some (.int .u32 1)) :
    Calls Try.prog 125 #[.pointer (some ⟨L, 0, none⟩), .pointer (some ⟨L, o, none⟩), .int .i64 n, .int .i64 most, .int .i64 reason] w fun e w' => e = .returned (.bool false) ∧ w = w' := by
  go_enter Try.func125, Try.ntmps125
  go_wp2
  refine wp_loop_rounds 1 ?_
  rw [rounds_succ]
  go_wp2_with (first
    | (go_at_call 120; (with_reducible refine (bload_t _ _ _ (by assumption)).mono ?_); rintro e w1 ⟨rfl, rfl⟩))
  go_ret
  exact ⟨rfl, rfl⟩
set_option maxRecDepth 100000 in
theorem work_ok (L : Nat) (n most was : Int) (w : World) (hbr : w.cell? ⟨L, 7, none⟩ = some (.int .u32 0)) (hm : w.cell? ⟨L, 3, none⟩ = some (.int .i64 most)) (hc : w.cell? ⟨L, 6, none⟩ = some (.int .i64 was)) (hz : w.frozen? ⟨L, 6, none⟩ = false)
    (h0 : 0 ≤ n) (h1 : n ≤ most - was) (h2 : 0 ≤ was) (h3 : was ≤ most) (h4 : most ≤ 9223372036854775807) :
    Calls Try.prog 118 #[.pointer (some ⟨L, 0, none⟩), .int .i64 n] w fun e w' => e = .returned (.bool true) ∧ ∃ k, (w.drewN k).setCell ⟨L, 6, none⟩ (.int .i64 (was + n)) = w' := by
  have HA := Lib.hid (fun k => add_ok L 6 n most 3 was (w.drewN k) (by rw [World.cell?_drewN]; exact hbr) (by rw [World.cell?_drewN]; exact hc) (by rw [World.frozen?_drewN]; exact hz) h0 h1 h2 h3 h4)
  clear h0 h1 h2 h3 h4
  go_enter Try.func118, Try.ntmps118
  go_wp2
  go_still_tail 10, (by kernel_rfl)
  rw [show (⟨w.heap, w.tape, w.drawn + 1, w.os, w.output⟩ : World) = w.drewN 1 from rfl]
  go_wp2_with (go_at_call 125; (with_reducible refine (HA.out 1).mono ?_); rintro e w1 ⟨rfl, rfl⟩)
  go_ret
  exact ⟨rfl, 1, rfl⟩
end Go.Proofs.Ytlhcjnjajkfahaa

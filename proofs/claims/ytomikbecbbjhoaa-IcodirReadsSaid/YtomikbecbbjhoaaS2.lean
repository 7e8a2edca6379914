/- The ledger's first refusal: sync.Once, walked. -/
import Derived.Test.YtomikbecbbjhoaaS1
namespace Go.Proofs.Ytomikbecbbjhoaa
open Go.RowKit
set_option linter.unusedVariables false
theorem c_disable (w : World) : (callFunc 155 #[]).run Try.prog w = .ok (.value (.tuple #[])) w := run_call_mark0 Try.func155 (by kernel_rfl) (by kernel_rfl) (by kernel_rfl) .disable (by kernel_rfl) w
theorem c_enable (w : World) : (callFunc 157 #[]).run Try.prog w = .ok (.value (.tuple #[])) w := run_call_mark0 Try.func157 (by kernel_rfl) (by kernel_rfl) (by kernel_rfl) .enable (by kernel_rfl) w
theorem c_acquire (a : Addr) (w : World) : (callFunc 158 #[.pointer (some a)]).run Try.prog w = .ok (.value (.tuple #[])) w := run_call_marked Try.func158 (by kernel_rfl) (by kernel_rfl) (by kernel_rfl) .acquire (by kernel_rfl) a w
theorem c_release (a : Addr) (w : World) : (callFunc 160 #[.pointer (some a)]).run Try.prog w = .ok (.value (.tuple #[])) w := run_call_marked Try.func160 (by kernel_rfl) (by kernel_rfl) (by kernel_rfl) .releaseMerge (by kernel_rfl) a w
theorem store_deferred (L o : Nat) (x : Value) (u : FrameMode) (w : World) (hc : w.cell? ⟨L, o, none⟩ = some x) (hz : w.frozen? ⟨L, o, none⟩ = false) :
    CallsD Try.prog 146 #[.pointer (some ⟨L, o, none⟩), .bool true] u w fun e u' w' => u' = u ∧ (e = .returned (.tuple #[]) ∧ w' = w.drew.setCell ⟨L, o, none⟩ (.int .u32 1)) := by
  have hc' : w.drew.cell? ⟨L, o, none⟩ = some x := by go_simp
  have hz' : w.drew.frozen? ⟨L, o, none⟩ = false := by go_simp
  have hst := run_call_store (P := Try.prog) Try.func149 (by kernel_rfl) (by kernel_rfl) (by kernel_rfl) (by kernel_rfl) (k := .u32) (y := 1) hc' hz'
  go_enter_d Try.func146, Try.ntmps146
  go_wp2
  go_region_calls
  all_goals (go_end0; exact ⟨rfl, rfl⟩)
theorem bstore (L o : Nat) (x : Value) (w : World) (hc : w.cell? ⟨L, o, none⟩ = some x) (hz : w.frozen? ⟨L, o, none⟩ = false) :
    Calls Try.prog 146 #[.pointer (some ⟨L, o, none⟩), .bool true] w fun e w' => e = .returned (.tuple #[]) ∧ w.drew.setCell ⟨L, o, none⟩ (.int .u32 1) = w' := by
  have hc' : w.drew.cell? ⟨L, o, none⟩ = some x := by go_simp
  have hz' : w.drew.frozen? ⟨L, o, none⟩ = false := by go_simp
  have hst := run_call_store (P := Try.prog) Try.func149 (by kernel_rfl) (by kernel_rfl) (by kernel_rfl) (by kernel_rfl) (k := .u32) (y := 1) hc' hz'
  go_enter Try.func146, Try.ntmps146
  go_wp2
  go_region_calls
  all_goals (go_end0; exact ⟨rfl, rfl⟩)
set_option maxRecDepth 100000 in
theorem unlock_deferred (L o : Nat) (u : FrameMode) (w : World) (hc : w.cell? ⟨L, o, none⟩ = some (.int .i32 1)) (hz : w.frozen? ⟨L, o, none⟩ = false) :
    CallsD Try.prog 152 #[.pointer (some ⟨L, o, none⟩)] u w fun e u' w' => u' = u ∧ (e = .returned (.tuple #[]) ∧ w' = w.setCell ⟨L, o, none⟩ (.int .i32 0)) := by
  have hd := c_disable
  have he := c_enable
  have hr := c_release
  have hadd := run_call_add (P := Try.prog) Try.func161 (by kernel_rfl) (by kernel_rfl) (by kernel_rfl) .i32 (by kernel_rfl) (y := -1) (s := 0) hc hz (by simp [go_sem]; rfl)
  have hcv := run_convert_to_unsafe (P := Try.prog) (src := 196) (dst := 200) Try.underlying196 Try.underlying200 (by kernel_rfl) hc
  go_enter_d Try.func152, Try.ntmps152
  go_wp2
  go_end0
  go_wp2
  all_goals (go_end0; exact ⟨rfl, rfl⟩)
set_option maxRecDepth 100000 in
theorem lock_free (L o : Nat) (w : World) (hc : w.cell? ⟨L, o, none⟩ = some (.int .i32 0)) (hz : w.frozen? ⟨L, o, none⟩ = false) :
    Calls Try.prog 151 #[.pointer (some ⟨L, o, none⟩)] w fun e w' => e = .returned (.tuple #[]) ∧ w.setCell ⟨L, o, none⟩ (.int .i32 1) = w' := by
  have hd := c_disable
  have he := c_enable
  have ha := c_acquire
  have hcas := run_call_cas_hit (P := Try.prog) Try.func156 (by kernel_rfl) (by kernel_rfl) (by kernel_rfl) .i32 (by kernel_rfl) (y := 1) hc hz
  have hc' : (w.setCell ⟨L, o, none⟩ (.int .i32 1)).cell? ⟨L, o, none⟩ = some (.int .i32 1) := World.cell?_setCell_same w _ _ hc
  have hcv := run_convert_to_unsafe (P := Try.prog) (src := 196) (dst := 200) Try.underlying196 Try.underlying200 (by kernel_rfl) hc'
  go_enter Try.func151, Try.ntmps151
  go_wp2
  first | go_end0 | (simp only [Exit.inBlock, Exit.then]; refine bodyPost_ret (results_none rfl _ _ _) rfl ?_) | refine bodyPost_ret (results_none rfl _ _ _) rfl ?_
  go_wp2
  all_goals (go_end0; exact ⟨rfl, rfl⟩)
end Go.Proofs.Ytomikbecbbjhoaa

/- The ledger's first refusal: sync.Once, walked. -/
import Derived.Test.YtlhcjnjajkfahaaS1
namespace Go.Proofs.Ytlhcjnjajkfahaa
open Go.RowKit
set_option linter.unusedVariables false
theorem c_disable (w : World) : (callFunc 142 #[]).run Try.prog w = .ok (.value (.tuple #[])) w := run_call_mark0 Try.func142 (by kernel_rfl) (by kernel_rfl) (by kernel_rfl) .disable (by kernel_rfl) w
theorem c_enable (w : World) : (callFunc 144 #[]).run Try.prog w = .ok (.value (.tuple #[])) w := run_call_mark0 Try.func144 (by kernel_rfl) (by kernel_rfl) (by kernel_rfl) .enable (by kernel_rfl) w
theorem c_acquire (a : Addr) (w : World) : (callFunc 145 #[.pointer (some a)]).run Try.prog w = .ok (.value (.tuple #[])) w := run_call_marked Try.func145 (by kernel_rfl) (by kernel_rfl) (by kernel_rfl) .acquire (by kernel_rfl) a w
theorem c_release (a : Addr) (w : World) : (callFunc 147 #[.pointer (some a)]).run Try.prog w = .ok (.value (.tuple #[])) w := run_call_marked Try.func147 (by kernel_rfl) (by kernel_rfl) (by kernel_rfl) .releaseMerge (by kernel_rfl) a w
theorem store_deferred (L o : Nat) (x : Value) (u : FrameMode) (w : World) (hc : w.cell? ⟨L, o, none⟩ = some x) (hz : w.frozen? ⟨L, o, none⟩ = false) :
    CallsD Try.prog 133 #[.pointer (some ⟨L, o, none⟩), .bool true] u w fun e u' w' => u' = u ∧ (e = .returned (.tuple #[]) ∧ w' = w.drew.setCell ⟨L, o, none⟩ (.int .u32 1)) := by
  have hc' : w.drew.cell? ⟨L, o, none⟩ = some x := by go_simp
  have hz' : w.drew.frozen? ⟨L, o, none⟩ = false := by go_simp
  have hst := run_call_store (P := Try.prog) Try.func136 (by kernel_rfl) (by kernel_rfl) (by kernel_rfl) (by kernel_rfl) (k := .u32) (y := 1) hc' hz'
  go_enter_d Try.func133, Try.ntmps133
  go_wp2
  go_region_calls
  all_goals (go_end0; exact ⟨rfl, rfl⟩)
theorem bstore (L o : Nat) (x : Value) (w : World) (hc : w.cell? ⟨L, o, none⟩ = some x) (hz : w.frozen? ⟨L, o, none⟩ = false) :
    Calls Try.prog 133 #[.pointer (some ⟨L, o, none⟩), .bool true] w fun e w' => e = .returned (.tuple #[]) ∧ w.drew.setCell ⟨L, o, none⟩ (.int .u32 1) = w' := by
  have hc' : w.drew.cell? ⟨L, o, none⟩ = some x := by go_simp
  have hz' : w.drew.frozen? ⟨L, o, none⟩ = false := by go_simp
  have hst := run_call_store (P := Try.prog) Try.func136 (by kernel_rfl) (by kernel_rfl) (by kernel_rfl) (by kernel_rfl) (k := .u32) (y := 1) hc' hz'
  go_enter Try.func133, Try.ntmps133
  go_wp2
  go_region_calls
  all_goals (go_end0; exact ⟨rfl, rfl⟩)
set_option maxRecDepth 100000 in
theorem unlock_deferred (L o : Nat) (u : FrameMode) (w : World) (hc : w.cell? ⟨L, o, none⟩ = some (.int .i32 1)) (hz : w.frozen? ⟨L, o, none⟩ = false) :
    CallsD Try.prog 139 #[.pointer (some ⟨L, o, none⟩)] u w fun e u' w' => u' = u ∧ (e = .returned (.tuple #[]) ∧ w' = w.setCell ⟨L, o, none⟩ (.int .i32 0)) := by
  have hd := c_disable
  have he := c_enable
  have hr := c_release
  have hadd := run_call_add (P := Try.prog) Try.func148 (by kernel_rfl) (by kernel_rfl) (by kernel_rfl) .i32 (by kernel_rfl) (y := -1) (s := 0) hc hz (by simp [go_sem]; rfl)
  have hcv := run_convert_to_unsafe (P := Try.prog) (src := 186) (dst := 190) Try.underlying186 Try.underlying190 (by kernel_rfl) hc
  go_enter_d Try.func139, Try.ntmps139
  go_wp2
  go_end0
  go_wp2
  all_goals (go_end0; exact ⟨rfl, rfl⟩)
set_option maxRecDepth 100000 in
theorem lock_free (L o : Nat) (w : World) (hc : w.cell? ⟨L, o, none⟩ = some (.int .i32 0)) (hz : w.frozen? ⟨L, o, none⟩ = false) :
    Calls Try.prog 138 #[.pointer (some ⟨L, o, none⟩)] w fun e w' => e = .returned (.tuple #[]) ∧ w.setCell ⟨L, o, none⟩ (.int .i32 1) = w' := by
  have hd := c_disable
  have he := c_enable
  have ha := c_acquire
  have hcas := run_call_cas_hit (P := Try.prog) Try.func143 (by kernel_rfl) (by kernel_rfl) (by kernel_rfl) .i32 (by kernel_rfl) (y := 1) hc hz
  have hc' : (w.setCell ⟨L, o, none⟩ (.int .i32 1)).cell? ⟨L, o, none⟩ = some (.int .i32 1) := World.cell?_setCell_same w _ _ hc
  have hcv := run_convert_to_unsafe (P := Try.prog) (src := 186) (dst := 190) Try.underlying186 Try.underlying190 (by kernel_rfl) hc'
  go_enter Try.func138, Try.ntmps138
  go_wp2
  first | go_end0 | (simp only [Exit.inBlock, Exit.then]; refine bodyPost_ret (results_none rfl _ _ _) rfl ?_) | refine bodyPost_ret (results_none rfl _ _ _) rfl ?_
  go_wp2
  all_goals (go_end0; exact ⟨rfl, rfl⟩)
end Go.Proofs.Ytlhcjnjajkfahaa

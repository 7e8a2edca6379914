/- The sequence of a text's formats: its contract. -/
import Derived.Test.YtlhcjnjajkfahaaNC
import Derived.RangeFuncNested
import Derived.RangeFuncBound
import Derived.RangeFuncCalls
import Derived.RangeFuncLeaves
import Derived.RangeFuncBox
import Derived.Shelf.Abstract
import Derived.Shelf.RegionOpen
import Derived.WalkKit
import Derived.OwnWalkIn
import Derived.TacticsInMore
import Derived.LoopNIn
import Derived.LoopIn
namespace Go.Proofs.Ytlhcjnjajkfahaa
open Go.RowKit
set_option linter.unusedVariables false
set_option linter.unusedSimpArgs false
attribute [local go_sem] Oper.semAt_some
theorem allTo_pre (s : ByteArray) (k : Nat) : allTo s k <+: allTo s (k + 1) := by
  rw [show allTo s (k + 1) = bif hasB s (ordL.getD k 0) then allTo s k ++ [ordL.getD k 0] else allTo s k from rfl]
  cases hasB s (ordL.getD k 0)
  · exact List.prefix_refl _
  · exact List.prefix_append _ _
theorem allTo_mono (s : ByteArray) (j k : Nat) (h : j ≤ k) : allTo s j <+: allTo s k := by
  induction k with
  | zero => obtain rfl : j = 0 := by omega
            exact List.prefix_refl _
  | succ k ih =>
    by_cases e : j = k + 1
    · subst e; exact List.prefix_refl _
    · exact (ih (by omega)).trans (allTo_pre s k)
/-- A block stays as it is. -/
def KeepB (B : Nat) (W W' : World) : Prop := W'.heap[B]? = W.heap[B]? ∧ W.heap.size ≤ W'.heap.size
theorem keepB_t {B : Nat} {X Y Z : World} (h : KeepB B X Y) (k : KeepB B Y Z) : KeepB B X Z := ⟨k.1.trans h.1, Nat.le_trans h.2 k.2⟩
theorem keepB_b {B : Nat} {w : World} (hB : B < w.heap.size) (W : World) (l : Nat) (o o' : Obj) (hl : w.heap.size ≤ l) (h : W.heap[l]? = some o) (_ : o.isCells = false) (_ : o.isWalk = false) : KeepB B W (W.putObj l o') :=
  ⟨World.putObj_heap_other (by omega), (grownBy_putObj' W l o').size⟩
theorem below_grown {w w' : World} (h : Below w.heap.size w w') : w.grownBy w' none := ⟨h.os, h.tape, h.output, h.size, fun k hk _ => h.block k hk⟩
set_option maxRecDepth 100000 in
theorem ord_ix (k : Nat) (h : k < 8) (w : World) : (Instr.index 83 (.agg ordV.toArray) (.int .i64 k)).run Try.prog w = .ok (.int .i64 (ordL.getD k 0)) w := by
  rcases (show k = 0 ∨ k = 1 ∨ k = 2 ∨ k = 3 ∨ k = 4 ∨ k = 5 ∨ k = 6 ∨ k = 7 by omega) with rfl | rfl | rfl | rfl | rfl | rfl | rfl | rfl <;> kernel_rfl
set_option maxRecDepth 100000 in
set_option maxHeartbeats 4000000 in
theorem all1_in (s : ByteArray) (hs : s.size ≤ 9223372036854775807) (n : Nat) (l B : Nat) (J Jx : List Int → World → Prop) (W : World) (hBW : B < W.heap.size) (hJ : AbidesFrom W.heap.size J)
    (hY : ∀ pre x W, J pre W → pre.length < 8 → YieldAt Fence.wide (n - 1) Try.prog l #[.int .i64 x] W fun e W' =>
      (e = .returned (.bool true) ∧ J (pre ++ [x]) W' ∧ KeepB B W W') ∨ (e = .returned (.bool false) ∧ Jx (pre ++ [x]) W'))
    (hb : W.cell? ⟨B, 0, none⟩ = some (.string s)) (h0 : J [] W) :
    CallsIn Fence.wide n Try.prog 51 #[.func (.yield l) #[] #[], .pointer (some ⟨B, 0, none⟩)] W fun e W' => (∃ v, e = .returned v) ∧
      ((∃ ys, ys = allTo s 8 ∧ J ys W') ∨ (∃ pre, (pre <+: allTo s 8 ∧ pre ≠ []) ∧ Jx pre W')) := by
  have HO := Lib.hid (fun w0 => callsIn_wide (n := n - 1).2 (order_any w0))
  have HH := Lib.hid (fun f w0 => callsIn_wide (n := n - 1).2 (has_any s f w0 hs))
  refine callsIn_of_wp Try.func51 rfl trivial ?_ rfl
  simp only [Try.ntmps51, List.size_toArray, List.length_cons, List.length_nil, Nat.reduceAdd, Nat.reduceSub, Array.replicate_succ, Array.replicate_zero, List.push_toArray, List.append_toArray, List.nil_append, List.cons_append]
  gi_wp2_with (refine ⟨trivial, (fun h => absurd h (by decide)), ?_⟩; gi_at_call 52; refine (HO.out _).mono ?_; rintro e w1 ⟨rfl, hb1⟩)
  have hc1 : w1.cell? ⟨B, 0, none⟩ = some (.string s) := (hb1.cell (p := ⟨B, 0, none⟩) hBW).trans hb
  have J1 : J [] w1 := hJ [] W w1 none h0 (below_grown hb1) (fun r e => by cases e)
  have z1 : W.heap.size ≤ w1.heap.size := hb1.size
  clear hb1 hb h0
  gi_loopw [4, 6] (fun q4 c wr => ∃ k : Nat, k ≤ 8 ∧ c = .int .i64 k ∧ J (allTo s k) wr ∧ wr.cell? ⟨B, 0, none⟩ = some (.string s) ∧ B < wr.heap.size) (fun _ c _ => 8 - (intOf c).toNat)
  case atStart => exact ⟨0, by omega, rfl, J1, hc1, Nat.lt_of_lt_of_le hBW z1⟩
  case round =>
    obtain ⟨k, hk, rfl, hj, hc, hz⟩ := hrel
    by_cases hlt : k < 8
    rotate_left
    · have hge : 8 ≤ k := by omega
      obtain ⟨M, hM⟩ : ∃ M, allTo s k = M := ⟨_, rfl⟩
      have EM := Lib.hid (show M = allTo s 8 by rw [← hM]; exact congrArg _ (by omega))
      rw [hM] at hj
      clear hM
      gi_wp2
      go_end0
      exact ⟨⟨_, rfl⟩, .inl ⟨M, EM.out, hj⟩⟩
    · have hge : ¬ 8 ≤ k := by omega
      have hln := allTo_len s k
      obtain ⟨f, hf⟩ : ∃ f, ordL.getD k 0 = f := ⟨_, rfl⟩
      obtain ⟨hb, hhb⟩ : ∃ b, hasB s f = b := ⟨_, rfl⟩
      have EA := Lib.hid (show allTo s (k + 1) = bif hb then allTo s k ++ [f] else allTo s k by rw [allTo, hf, hhb])
      have HF := Lib.hid (fun w0 => HH.out f w0)
      rw [hhb] at HF
      have ck := fun w0 => ord_ix k hlt w0
      rw [hf] at ck
      obtain ⟨P, hP⟩ : ∃ P, allTo s k = P := ⟨_, rfl⟩
      rw [hP] at EA hln hj
      have PX := Lib.hid (allTo_mono s (k + 1) 8 (by omega))
      clear hf hhb hP
      cases hb
      · gi_wp2_with (refine ⟨trivial, (fun h => absurd h (by decide)), ?_⟩; gi_at_call 24; refine (HF.out _).mono ?_; rintro e w4 ⟨rfl, hb4⟩; have hj := hJ _ _ _ none hj (below_grown hb4) (fun r e => by cases e); have hc := (hb4.cell (p := ⟨B, 0, none⟩) hz).trans hc; have hz := Nat.lt_of_lt_of_le hz hb4.size; clear hb4)
        all_goals (try (refine ⟨fun _ h => (by cases h), ?_⟩))
        gi_wp2
        go_roundw
        case rel => exact ⟨k + 1, by omega, by go_num, by rw [EA.out]; exact hj, hc, hz⟩
        case measure => simp [intOf]; omega
      · gi_wp2_with (refine ⟨trivial, (fun h => absurd h (by decide)), ?_⟩; gi_at_call 24; refine (HF.out _).mono ?_; rintro e w4 ⟨rfl, hb4⟩; have hj := hJ _ _ _ none hj (below_grown hb4) (fun r e => by cases e); have hc := (hb4.cell (p := ⟨B, 0, none⟩) hz).trans hc; have hz := Nat.lt_of_lt_of_le hz hb4.size; clear hb4; obtain ⟨fn, tmps, assign, body, hy, hR⟩ := hY _ f w4 hj (by omega))
        refine ⟨fun h => absurd h (by decide), hR.mono ?_⟩
        rintro e W3 (⟨rfl, hJ3, hk3⟩ | ⟨rfl, hJx3⟩)
        · have hc3 := (World.cell?_of_block (a := ⟨B, 0, none⟩) hk3.1).trans hc
          gi_wp2
          go_roundw
          case rel => exact ⟨k + 1, by omega, by go_num, by rw [EA.out]; exact hJ3, hc3, Nat.lt_of_lt_of_le hz hk3.2⟩
          case measure => simp [intOf]; omega
        · gi_wp2
          refine bodyPost_ret (results_none rfl _ _ _) rfl ?_
          rw [EA.out] at PX
          exact ⟨⟨_, rfl⟩, .inr ⟨P ++ [f], ⟨PX.out, by simp⟩, hJx3⟩⟩
theorem all_stops (s : ByteArray) (hs : s.size ≤ 9223372036854775807) (n : Nat) (B : Nat) (w : World) (hB : B < w.heap.size) (hb : w.cell? ⟨B, 0, none⟩ = some (.string s)) :
    SeqStopsK Fence.wide n Try.prog 51 #[.pointer (some ⟨B, 0, none⟩)] (fun x : Int => #[Value.int .i64 x]) (KeepB B) (fun ys => ys = allTo s 8) (fun pre => pre <+: allTo s 8 ∧ pre ≠ []) 8 w := fun l J Jx W hW hJ hJx hY h0 =>
  all1_in s hs n l B J Jx W (Nat.lt_of_lt_of_le hB hW.size) hJ hY ((hW.cell (p := ⟨B, 0, none⟩) hB).trans hb) h0
end Go.Proofs.Ytlhcjnjajkfahaa

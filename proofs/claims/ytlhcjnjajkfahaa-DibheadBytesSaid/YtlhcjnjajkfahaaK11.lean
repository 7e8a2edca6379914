/- dibhead: what may be wrong with a head: rows, the first one that is wrong. -/
import Derived.Test.YtlhcjnjajkfahaaK10
import Derived.Test.YtlhcjnjajkfahaaK9
namespace Go.Proofs.Ytlhcjnjajkfahaa
open Go.RowKit
set_option linter.unusedVariables false
set_option linter.unusedSimpArgs false
abbrev Fnd := Bool × Int × Int
def fndC (r : Fnd) : List Value := [.bool r.1, .int .i64 r.2.1, .int .i64 r.2.2]
def fndL : List Fnd → List Value
  | [] => []
  | r :: t => fndC r ++ fndL t
theorem fndL_len (L : List Fnd) : (fndL L).length = L.length * 3 := by
  induction L with
  | nil => rfl
  | cons r t ih => simp only [fndL, List.length_append, ih, List.length_cons, fndC, List.length_nil]; omega
theorem fndL_one (L : List Fnd) : ∀ u ∈ fndL L, u.oneCell' = true := by
  induction L with
  | nil => intro u hu; cases hu
  | cons r t ih =>
    intro u hu
    rcases List.mem_append.1 hu with h | h
    · simp [fndC] at h; rcases h with rfl | rfl | rfl <;> rfl
    · exact ih u h
theorem fndL_app (A B : List Fnd) : fndL (A ++ B) = fndL A ++ fndL B := by
  induction A with
  | nil => rfl
  | cons r t ih => simp only [List.cons_append, fndL, ih, List.append_assoc]
theorem fndL_get (L : List Fnd) (i j : Nat) (r : Fnd) (h : L[i]? = some r) (hj : j < 3) : (fndL L)[i * 3 + j]? = (fndC r)[j]? := by
  induction L generalizing i with
  | nil => simp at h
  | cons q t ih =>
    cases i with
    | zero => simp at h; subst h; rw [Nat.zero_mul, Nat.zero_add, fndL, List.getElem?_append_left (by simp only [fndC, List.length_cons, List.length_nil]; omega)]
    | succ i => rw [show (i + 1) * 3 + j = 3 + (i * 3 + j) by omega, fndL, List.getElem?_append_right (by simp only [fndC, List.length_cons, List.length_nil]; omega)]
                rw [show (3 + (i * 3 + j) - (fndC q).length) = i * 3 + j by simp [fndC]]
                exact ih i (by simpa using h)
/-- The first row that is wrong. -/
def firstW : List Fnd → Fnd × Bool
  | [] => ((false, 0, 0), false)
  | r :: t => if r.1 = true then (r, true) else firstW t
theorem firstW_app (A B : List Fnd) : firstW (A ++ B) = if (firstW A).2 = true then firstW A else firstW B := by
  induction A with
  | nil => rfl
  | cons r t ih => simp only [List.cons_append, firstW]; split <;> simp_all
def FirstPost (w : World) (R : Fnd × Bool) (e : Ending) (w' : World) : Prop := e = .returned (.tuple #[.agg (List.toArray (fndC R.1)), .bool R.2]) ∧ Below w.heap.size w w'
set_option maxRecDepth 100000 in
set_option maxHeartbeats 4000000 in
theorem first_any (L : List Fnd) (n B cap : Nat) (w : World) (hn : n = L.length) (h99 : n ≤ 100) (hB : B < w.heap.size) (hR : w.rangeAt B 0 (fndL L)) : Calls Try.prog 73 #[.slice (some ⟨B, 0, none⟩) n cap] w (FirstPost w (firstW L)) := by
  unfold FirstPost
  have HR := Lib.hid hR
  have HN := Lib.hid hn
  have O2 := Lib.hid (obj1_new w #[.bool false, .int .i64 0, .int .i64 0] 106)
  have BL := Lib.hid ((Below.refl w.heap.size w).alloc (Nat.le_refl _) (.cells #[.bool false, .int .i64 0, .int .i64 0] 106))
  obtain ⟨RS, hRS⟩ : ∃ r, firstW L = r := ⟨_, rfl⟩
  have HRS := Lib.hid hRS
  rw [hRS]
  clear hR hRS hn
  go_enter Try.func73, Try.ntmps73
  go_upto_region 1 with (fail)
  generalize World.alloc _ _ = w1 at O2 BL ⊢
  have hz1 : w.heap.size < w1.heap.size := O2.out.lt
  go_wp2_with fail
  go_loopw [5, 8] (fun q5 c wr => ∃ i : Nat, i ≤ n ∧ c = .int .i64 i ∧ firstW (L.drop i) = RS ∧ Obj1 wr w.heap.size #[.bool false, .int .i64 0, .int .i64 0] 106 ∧ Below w.heap.size w wr) (fun _ c _ => n - (intOf c).toNat)
  case atStart => exact ⟨0, by omega, rfl, HRS.out, O2.out, BL.out⟩
  case round =>
    obtain ⟨i, hi, rfl, hf, hO, hb⟩ := hrel
    have O2 := Lib.hid hO
    have BL := Lib.hid hb
    have hzr : w.heap.size < wr.heap.size := hO.lt
    clear hO hb
    have f0 : wr.frozen? ⟨w.heap.size, 0, none⟩ = false := O2.out.frozen 0
    have f1 : wr.frozen? ⟨w.heap.size, 1, none⟩ = false := O2.out.frozen 1
    have f2 : wr.frozen? ⟨w.heap.size, 2, none⟩ = false := O2.out.frozen 2
    have k0 : wr.cell? ⟨w.heap.size, 0, none⟩ = some (.bool false) := (O2.out.cell 0).trans rfl
    have k1 : wr.cell? ⟨w.heap.size, 1, none⟩ = some (.int .i64 0) := (O2.out.cell 1).trans rfl
    have k2 : wr.cell? ⟨w.heap.size, 2, none⟩ = some (.int .i64 0) := (O2.out.cell 2).trans rfl
    by_cases hlt : i < n
    rotate_left
    · have hge : n ≤ i := by omega
      have hRS : RS = ((false, 0, 0), false) := by rw [← hf, List.drop_of_length_le (by rw [← HN.out]; exact hge)]; rfl
      have HRS := Lib.hid hRS
      clear hf hRS
      go_wp2_with (refine store_o rfl 106 3 _ _ rfl w.heap.size [.bool false, .int .i64 0, .int .i64 0] rfl rfl (by kernel_rfl) (by kernel_rfl) (by kernel_rfl) O2.out (by first | rfl | simp) ?_; intro ws hst hO; have O2 := Lib.hid hO; have BL := Lib.hid (hst.below BL.out (by omega)); clear hst hO)
      refine bodyPost_ret (v := .tuple #[.agg (List.toArray [.bool false, .int .i64 0, .int .i64 0]), .bool false]) ?_ rfl ⟨by rw [HRS.out]; rfl, BL.out⟩
      exact results_c1 Try.results73 _ _ _ [.bool false, .int .i64 0, .int .i64 0] _ rfl O2.out.range0 Try.underlying106 rfl (by kernel_rfl)
    · have hlt2 : i < L.length := by rw [← HN.out]; exact hlt
      obtain ⟨⟨wr0, kd, at0⟩, hrow⟩ : ∃ r, L[i] = r := ⟨_, rfl⟩
      have hr : L[i]? = some (wr0, kd, at0) := by rw [List.getElem?_eq_getElem hlt2, hrow]
      have hd : L.drop i = (wr0, kd, at0) :: L.drop (i + 1) := by rw [List.drop_eq_getElem_cons hlt2, hrow]
      rw [hd, firstW] at hf
      have g0 := fndL_get L i 0 _ hr (by omega)
      have g1 := fndL_get L i 1 _ hr (by omega)
      have g2 := fndL_get L i 2 _ hr (by omega)
      have hRr := range_below HR.out BL.out hB
      have c0 : wr.cell? ⟨B, i * 3, none⟩ = some (.bool wr0) := by have := hRr (i * 3) _ (by rw [← Nat.add_zero (i * 3)]; exact g0); rwa [Nat.zero_add] at this
      have c1 : wr.cell? ⟨B, i * 3 + 1, none⟩ = some (.int .i64 kd) := by have := hRr (i * 3 + 1) _ g1; rwa [Nat.zero_add] at this
      have c2 : wr.cell? ⟨B, i * 3 + 2, none⟩ = some (.int .i64 at0) := by have := hRr (i * 3 + 2) _ g2; rwa [Nat.zero_add] at this
      clear hrow hr hd g0 g1 g2 hRr
      cases wr0
      · have HF := Lib.hid (show firstW (L.drop (i + 1)) = RS from hf)
        clear hf
        go_wp2_with fail
        go_roundw
        case rel => exact ⟨i + 1, by omega, by go_num, HF.out, O2.out.alloc _, BL.out.alloc BL.out.size _⟩
        case measure => simp [intOf]; omega
      · have HF := Lib.hid (show ((true, kd, at0), true) = RS from hf)
        clear hf
        have O2 := Lib.hid (O2.out.alloc (.cells #[.bool true, .int .i64 kd, .int .i64 at0] 106))
        have BL := Lib.hid (BL.out.alloc BL.out.size (.cells #[.bool true, .int .i64 kd, .int .i64 at0] 106))
        go_wp2_with (refine store_o rfl 106 3 _ _ rfl w.heap.size [.bool true, .int .i64 kd, .int .i64 at0] rfl rfl (by kernel_rfl) (by kernel_rfl) (by kernel_rfl) O2.out (by first | rfl | simp) ?_; intro ws hst hO; have O2 := Lib.hid hO; have BL := Lib.hid (hst.below BL.out (by omega)); clear hst hO)
        refine bodyPost_ret (v := .tuple #[.agg (List.toArray [.bool true, .int .i64 kd, .int .i64 at0]), .bool true]) ?_ rfl ⟨by rw [← HF.out]; rfl, BL.out⟩
        exact results_c1 Try.results73 _ _ _ [.bool true, .int .i64 kd, .int .i64 at0] _ rfl O2.out.range0 Try.underlying106 rfl (by kernel_rfl)
def sidesF (W H a b : Int) : List Fnd := [(decide (W ≤ 0), 2, a), (decide (W > 16384), 3, a), (H == 0, 2, b), (decide (H > 16384) || decide (H < -16384), 3, b)]
set_option maxRecDepth 100000 in
set_option maxHeartbeats 4000000 in
theorem sides_any (W H a b : Int) (w : World) : Calls Try.prog 98 #[.int .i64 W, .int .i64 H, .int .i64 a, .int .i64 b] w fun e w' => e = .returned (.slice (some ⟨w.heap.size, 0, none⟩) 4 4) ∧ Obj1 w' w.heap.size (List.toArray (fndL (sidesF W H a b))) 106 ∧ Below w.heap.size w w' := by
  have O2 := Lib.hid (obj1_new w (List.toArray (fndL (sidesF W H a b))) 106)
  have BL := Lib.hid ((Below.refl w.heap.size w).alloc (Nat.le_refl _) (.cells (List.toArray (fndL (sidesF W H a b))) 106))
  obtain ⟨b1, hb1⟩ : ∃ x, decide (W ≤ 0) = x := ⟨_, rfl⟩
  obtain ⟨b2, hb2⟩ : ∃ x, decide (W > 16384) = x := ⟨_, rfl⟩
  obtain ⟨b3, hb3⟩ : ∃ x, (H == 0) = x := ⟨_, rfl⟩
  obtain ⟨b4, hb4⟩ : ∃ x, decide (H > 16384) = x := ⟨_, rfl⟩
  obtain ⟨b5, hb5⟩ : ∃ x, decide (H < -16384) = x := ⟨_, rfl⟩
  have E := Lib.hid (show fndL (sidesF W H a b) = [.bool b1, .int .i64 2, .int .i64 a, .bool b2, .int .i64 3, .int .i64 a, .bool b3, .int .i64 2, .int .i64 b, .bool (b4 || b5), .int .i64 3, .int .i64 b] by unfold sidesF; rw [hb1, hb2, hb3, hb4, hb5]; rfl)
  rw [E.out] at O2 BL ⊢
  go_enter Try.func98, Try.ntmps98
  cases b4
  all_goals go_wp2_with ((with_reducible refine skip_g rfl ?_ ?_); rfl; intro _)
  all_goals (go_ret; exact ⟨rfl, O2.out, BL.out⟩)
end Go.Proofs.Ytlhcjnjajkfahaa

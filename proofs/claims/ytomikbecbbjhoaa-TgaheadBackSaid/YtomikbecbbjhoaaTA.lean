/- tgahead.Bytes: its closure, walked. -/
import Derived.Test.YtomikbecbbjhoaaT7
import Derived.Deep.CutRange
namespace Go.Proofs.Ytomikbecbbjhoaa
open Go.RowKit
set_option linter.unusedVariables false
set_option linter.unusedSimpArgs false
theorem fold_size (l : List Int) : ∀ r : ByteArray, (l.foldl (fun r n => r.push (UInt8.ofNat n.toNat)) r).size = r.size + l.length := by
  induction l with
  | nil => intro r; rfl
  | cons a l ih => intro r; rw [List.foldl_cons, ih, ByteArray.size_push, List.length_cons]; omega
theorem strOf_size (l : List Int) {n : Nat} (h : l.length = n) : (strOf l).size = n := by
  subst h; unfold strOf; rw [fold_size]; simp
set_option maxRecDepth 100000 in
set_option maxHeartbeats 4000000 in
theorem put16 (a : Nat) (at0 v : Int) (VB OB : Nat) (w : World) (cs : Array Value) (T : TypeId) (hV : w.cell? ⟨VB, 0, none⟩ = some (.slice (some ⟨OB, 0, none⟩) 18 18)) (hO : Obj1 w OB cs T) (hcs : cs.size = 18) (ha : at0 = a) (h0 : a = 3 ∨ a = 5 ∨ a = 12 ∨ a = 14) :
    Calls Try.prog 75 #[.int .i64 at0, .int .i64 v, .pointer (some ⟨VB, 0, none⟩)] w fun e w' => e = .returned (.tuple #[]) ∧ w' = ((w.setCell ⟨OB, a, none⟩ (.int .u8 (v % 256))).setCell ⟨OB, a + 1, none⟩ (.int .u8 (v / 256 % 256))).drew := by
  subst ha
  obtain ⟨u1, hu1⟩ : ∃ u, cs[a]? = some u := ⟨_, Array.getElem?_eq_getElem (by omega)⟩
  obtain ⟨u2, hu2⟩ : ∃ u, cs[a + 1]? = some u := ⟨_, Array.getElem?_eq_getElem (by omega)⟩
  have c1 : w.cell? ⟨OB, a, none⟩ = some u1 := (hO.cell a).trans hu1
  have c2 : w.cell? ⟨OB, a + 1, none⟩ = some u2 := (hO.cell (a + 1)).trans hu2
  have k1 := hO.frozen a
  have k2 := hO.frozen (a + 1)
  clear hu1 hu2
  rcases h0 with rfl | rfl | rfl | rfl
  all_goals
    go_enter Try.func75, Try.ntmps75
    go_region
    all_goals go_wp2_with fail
    all_goals go_end0
    all_goals exact ⟨rfl, rfl⟩
def bytesL (a0 : Int) (mp : Bool) (a2 a3 a4 a5 a6 a7 a8 a9 : Int) (lf tp : Bool) : List Int :=
  [a0 % 256, if mp = true then 1 else 0, a2 % 256, a3 % 256, a3 / 256 % 256, a4 % 256, a4 / 256 % 256, a5 % 256, 0, 0, 0, 0, a6 % 256, a6 / 256 % 256, a7 % 256, a7 / 256 % 256, a8 % 256,
    if tp = true then bits .or .u8 (if lf = true then bits .or .u8 (a9 % 16) 16 else a9 % 16) 32 else (if lf = true then bits .or .u8 (a9 % 16) 16 else a9 % 16)]
def TBPost (hL : List Value) (s : ByteArray) (w : World) (e : Ending) (w' : World) : Prop :=
  Below w.heap.size w w' ∧ ((e = .returned (.tuple #[.string s, .int .i64 0]) ∧ (chkS s).first = none ∧ headL s = hL) ∨ (e = .returned (.tuple #[.string ⟨#[]⟩, .int .i64 6]) ∧ ((chkS s).first ≠ none ∨ headL s ≠ hL)))
theorem mk18' (w : World) : (Instr.makeSlice 100 (.int .i64 18) (.int .i64 18)).run Try.prog w = .ok (.slice (some ⟨w.heap.size, 0, none⟩) 18 18) (w.alloc (.cells #[.int .u8 0, .int .u8 0, .int .u8 0, .int .u8 0, .int .u8 0, .int .u8 0, .int .u8 0, .int .u8 0, .int .u8 0, .int .u8 0, .int .u8 0, .int .u8 0, .int .u8 0, .int .u8 0, .int .u8 0, .int .u8 0, .int .u8 0, .int .u8 0] 5)) := by kernel_rfl
set_option maxRecDepth 100000 in
set_option maxHeartbeats 8000000 in
theorem tbytes_any (a0 a2 a3 a4 a5 a6 a7 a8 a9 : Int) (mp lf tp : Bool) (w : World) : Calls Try.prog 35 #[.agg #[.int .i64 a0, .bool mp, .int .i64 a2, .int .i64 a3, .int .i64 a4, .int .i64 a5, .int .i64 a6, .int .i64 a7, .int .i64 a8, .int .i64 a9, .bool lf, .bool tp]] w (TBPost [.int .i64 a0, .bool mp, .int .i64 a2, .int .i64 a3, .int .i64 a4, .int .i64 a5, .int .i64 a6, .int .i64 a7, .int .i64 a8, .int .i64 a9, .bool lf, .bool tp] (strOf (bytesL a0 mp a2 a3 a4 a5 a6 a7 a8 a9 lf tp)) w) := by
  have hmf : ∀ (fn : Fn) (first cap : Array Value) (w : World), (Instr.makeFunc fn first cap).run Try.prog w = .ok (.func fn first cap) w := fun _ _ _ _ => rfl
  have HMK := fun w => mk18' w
  go_enter Try.func35, Try.ntmps35
  go_upto_region 3 with (fail)
  have OH := Lib.hid (((obj1_new w #[.int .i64 a0, .bool mp, .int .i64 a2, .int .i64 a3, .int .i64 a4, .int .i64 a5, .int .i64 a6, .int .i64 a7, .int .i64 a8, .int .i64 a9, .bool lf, .bool tp] 44).alloc (.cells #[.int .u8 (0), .int .u8 (0), .int .u8 (0), .int .u8 (0), .int .u8 (0), .int .u8 (0), .int .u8 (0), .int .u8 (0), .int .u8 (0), .int .u8 (0), .int .u8 (0), .int .u8 (0), .int .u8 (0), .int .u8 (0), .int .u8 (0), .int .u8 (0), .int .u8 (0), .int .u8 (0)] 5)).alloc (.cells #[.slice (some ⟨w.heap.size + 1, 0, none⟩) 18 18] 100))
  have OO := Lib.hid ((obj1_new (w.alloc (.cells #[.int .i64 a0, .bool mp, .int .i64 a2, .int .i64 a3, .int .i64 a4, .int .i64 a5, .int .i64 a6, .int .i64 a7, .int .i64 a8, .int .i64 a9, .bool lf, .bool tp] 44)) #[.int .u8 (0), .int .u8 (0), .int .u8 (0), .int .u8 (0), .int .u8 (0), .int .u8 (0), .int .u8 (0), .int .u8 (0), .int .u8 (0), .int .u8 (0), .int .u8 (0), .int .u8 (0), .int .u8 (0), .int .u8 (0), .int .u8 (0), .int .u8 (0), .int .u8 (0), .int .u8 (0)] 5).alloc (.cells #[.slice (some ⟨w.heap.size + 1, 0, none⟩) 18 18] 100))
  have OV := Lib.hid (obj1_new ((w.alloc (.cells #[.int .i64 a0, .bool mp, .int .i64 a2, .int .i64 a3, .int .i64 a4, .int .i64 a5, .int .i64 a6, .int .i64 a7, .int .i64 a8, .int .i64 a9, .bool lf, .bool tp] 44)).alloc (.cells #[.int .u8 (0), .int .u8 (0), .int .u8 (0), .int .u8 (0), .int .u8 (0), .int .u8 (0), .int .u8 (0), .int .u8 (0), .int .u8 (0), .int .u8 (0), .int .u8 (0), .int .u8 (0), .int .u8 (0), .int .u8 (0), .int .u8 (0), .int .u8 (0), .int .u8 (0), .int .u8 (0)] 5)) #[.slice (some ⟨w.heap.size + 1, 0, none⟩) 18 18] 100)
  have BW := Lib.hid ((((Below.refl w.heap.size w).alloc (Nat.le_refl _) (.cells #[.int .i64 a0, .bool mp, .int .i64 a2, .int .i64 a3, .int .i64 a4, .int .i64 a5, .int .i64 a6, .int .i64 a7, .int .i64 a8, .int .i64 a9, .bool lf, .bool tp] 44)).alloc (by simp) (.cells #[.int .u8 (0), .int .u8 (0), .int .u8 (0), .int .u8 (0), .int .u8 (0), .int .u8 (0), .int .u8 (0), .int .u8 (0), .int .u8 (0), .int .u8 (0), .int .u8 (0), .int .u8 (0), .int .u8 (0), .int .u8 (0), .int .u8 (0), .int .u8 (0), .int .u8 (0), .int .u8 (0)] 5)).alloc (by simp; omega) (.cells #[.slice (some ⟨w.heap.size + 1, 0, none⟩) 18 18] 100))
  rw [show (w.alloc (.cells #[.int .i64 a0, .bool mp, .int .i64 a2, .int .i64 a3, .int .i64 a4, .int .i64 a5, .int .i64 a6, .int .i64 a7, .int .i64 a8, .int .i64 a9, .bool lf, .bool tp] 44)).heap.size = w.heap.size + 1 by simp] at OO
  rw [show ((w.alloc (.cells #[.int .i64 a0, .bool mp, .int .i64 a2, .int .i64 a3, .int .i64 a4, .int .i64 a5, .int .i64 a6, .int .i64 a7, .int .i64 a8, .int .i64 a9, .bool lf, .bool tp] 44)).alloc (.cells #[.int .u8 (0), .int .u8 (0), .int .u8 (0), .int .u8 (0), .int .u8 (0), .int .u8 (0), .int .u8 (0), .int .u8 (0), .int .u8 (0), .int .u8 (0), .int .u8 (0), .int .u8 (0), .int .u8 (0), .int .u8 (0), .int .u8 (0), .int .u8 (0), .int .u8 (0), .int .u8 (0)] 5)).heap.size = w.heap.size + 1 + 1 by simp] at OV
  generalize World.alloc _ _ = w1 at OO OH OV BW ⊢
  obtain ⟨OB, hOB⟩ : ∃ b, w.heap.size + 1 = b := ⟨_, rfl⟩
  rw [hOB] at OO OV ⊢
  obtain ⟨VB, hVB⟩ : ∃ b, OB + 1 = b := ⟨_, rfl⟩
  rw [hVB] at OV ⊢
  obtain ⟨HB, hHB⟩ : ∃ b, w.heap.size = b := ⟨_, rfl⟩
  rw [hHB] at OH ⊢
  have NHO : HB ≠ OB := by omega
  have NVO : VB ≠ OB := by omega
  have ROB : w.heap.size ≤ OB := by omega
  clear hOB hVB
  have cv : w1.cell? ⟨VB, 0, none⟩ = some (.slice (some ⟨OB, 0, none⟩) 18 18) := OV.out.cell 0
  have ch0 : w1.cell? ⟨HB, 0, none⟩ = some (.int .i64 a0) := OH.out.cell 0
  have ch2 : w1.cell? ⟨HB, 2, none⟩ = some (.int .i64 a2) := OH.out.cell 2
  have ch5 : w1.cell? ⟨HB, 5, none⟩ = some (.int .i64 a5) := OH.out.cell 5
  have ch8 : w1.cell? ⟨HB, 8, none⟩ = some (.int .i64 a8) := OH.out.cell 8
  have co0 : w1.cell? ⟨OB, 0, none⟩ = some (.int .u8 (0)) := OO.out.cell 0
  have ck0 : w1.frozen? ⟨OB, 0, none⟩ = false := OO.out.frozen 0
  have co2 : w1.cell? ⟨OB, 2, none⟩ = some (.int .u8 (0)) := OO.out.cell 2
  have ck2 : w1.frozen? ⟨OB, 2, none⟩ = false := OO.out.frozen 2
  have co7 : w1.cell? ⟨OB, 7, none⟩ = some (.int .u8 (0)) := OO.out.cell 7
  have ck7 : w1.frozen? ⟨OB, 7, none⟩ = false := OO.out.frozen 7
  have co16 : w1.cell? ⟨OB, 16, none⟩ = some (.int .u8 (0)) := OO.out.cell 16
  have ck16 : w1.frozen? ⟨OB, 16, none⟩ = false := OO.out.frozen 16
  refine wp_region_noPanic ?_
  refine wp_region_held_drew (S := fun w' => w'.cell? ⟨VB, 0, none⟩ = some (.slice (some ⟨OB, 0, none⟩) 18 18) ∧ w'.cell? ⟨HB, 0, none⟩ = some (.int .i64 a0) ∧ w'.cell? ⟨HB, 2, none⟩ = some (.int .i64 a2) ∧ w'.cell? ⟨HB, 5, none⟩ = some (.int .i64 a5) ∧ w'.cell? ⟨HB, 8, none⟩ = some (.int .i64 a8)) (by kernel_rfl) (by refine ⟨?_, ?_, ?_, ?_, ?_⟩ <;> (go_simp)) (fun hHeld => ?_)
  refine wpAnyH_take (i := 0) (v := .slice (some ⟨OB, 0, none⟩) 18 18) rfl (by kernel_rfl) (by kernel_rfl) (by kernel_rfl) (fun _ _ _ h => h) (Or.inl ⟨by rfl, fun w _ => by (go_simp) <;> first | (intro hh; exfalso; omega) | rfl | (exact i64_wraps _ (by omega) (by omega))⟩) hHeld ?_
  simp only [Act.put, List.setIfInBounds_toArray, List.set_cons_zero, List.set_cons_succ, List.getElem_toArray, List.getElem_cons_zero, List.getElem_cons_succ]
  refine wpAnyH_take (i := 1) (v := .slice (some ⟨OB, 0, none⟩) 18 18) rfl (by kernel_rfl) (by kernel_rfl) (by kernel_rfl) (fun _ _ _ h => h) (Or.inl ⟨by rfl, fun w _ => by (go_simp) <;> first | (intro hh; exfalso; omega) | rfl | (exact i64_wraps _ (by omega) (by omega))⟩) hHeld ?_
  simp only [Act.put, List.setIfInBounds_toArray, List.set_cons_zero, List.set_cons_succ, List.getElem_toArray, List.getElem_cons_zero, List.getElem_cons_succ]
  refine wpAnyH_take (i := 2) (v := .slice (some ⟨OB, 0, none⟩) 18 18) rfl (by kernel_rfl) (by kernel_rfl) (by kernel_rfl) (fun _ _ _ h => h) (Or.inl ⟨by rfl, fun w _ => by (go_simp) <;> first | (intro hh; exfalso; omega) | rfl | (exact i64_wraps _ (by omega) (by omega))⟩) hHeld ?_
  simp only [Act.put, List.setIfInBounds_toArray, List.set_cons_zero, List.set_cons_succ, List.getElem_toArray, List.getElem_cons_zero, List.getElem_cons_succ]
  refine wpAnyH_take (i := 3) (v := .slice (some ⟨OB, 0, none⟩) 18 18) rfl (by kernel_rfl) (by kernel_rfl) (by kernel_rfl) (fun _ _ _ h => h) (Or.inl ⟨by rfl, fun w _ => by (go_simp) <;> first | (intro hh; exfalso; omega) | rfl | (exact i64_wraps _ (by omega) (by omega))⟩) hHeld ?_
  simp only [Act.put, List.setIfInBounds_toArray, List.set_cons_zero, List.set_cons_succ, List.getElem_toArray, List.getElem_cons_zero, List.getElem_cons_succ]
  refine wpAnyH_take (i := 4) (v := .pointer (some ⟨HB, 0, none⟩)) rfl (by kernel_rfl) (by kernel_rfl) (by kernel_rfl) (fun _ _ _ h => h) (Or.inl ⟨by rfl, fun w _ => by (go_simp) <;> first | (intro hh; exfalso; omega) | rfl | (exact i64_wraps _ (by omega) (by omega))⟩) hHeld ?_
  simp only [Act.put, List.setIfInBounds_toArray, List.set_cons_zero, List.set_cons_succ, List.getElem_toArray, List.getElem_cons_zero, List.getElem_cons_succ]
  refine wpAnyH_take (i := 5) (v := .int .i64 a0) rfl (by kernel_rfl) (by kernel_rfl) (by kernel_rfl) (fun _ _ _ h => h) (Or.inl ⟨by rfl, fun w _ => by (go_simp) <;> first | (intro hh; exfalso; omega) | rfl | (exact i64_wraps _ (by omega) (by omega))⟩) hHeld ?_
  simp only [Act.put, List.setIfInBounds_toArray, List.set_cons_zero, List.set_cons_succ, List.getElem_toArray, List.getElem_cons_zero, List.getElem_cons_succ]
  refine wpAnyH_take (i := 6) (v := .int .u8 (a0 % 256)) rfl (by kernel_rfl) (by kernel_rfl) (by kernel_rfl) (fun _ _ _ h => h) (Or.inl ⟨by rfl, fun w _ => by (go_simp) <;> first | (intro hh; exfalso; omega) | rfl | (exact i64_wraps _ (by omega) (by omega))⟩) hHeld ?_
  simp only [Act.put, List.setIfInBounds_toArray, List.set_cons_zero, List.set_cons_succ, List.getElem_toArray, List.getElem_cons_zero, List.getElem_cons_succ]
  refine wpAnyH_take (i := 7) (v := .pointer (some ⟨HB, 2, none⟩)) rfl (by kernel_rfl) (by kernel_rfl) (by kernel_rfl) (fun _ _ _ h => h) (Or.inl ⟨by rfl, fun w _ => by (go_simp) <;> first | (intro hh; exfalso; omega) | rfl | (exact i64_wraps _ (by omega) (by omega))⟩) hHeld ?_
  simp only [Act.put, List.setIfInBounds_toArray, List.set_cons_zero, List.set_cons_succ, List.getElem_toArray, List.getElem_cons_zero, List.getElem_cons_succ]
  refine wpAnyH_take (i := 8) (v := .int .i64 a2) rfl (by kernel_rfl) (by kernel_rfl) (by kernel_rfl) (fun _ _ _ h => h) (Or.inl ⟨by rfl, fun w _ => by (go_simp) <;> first | (intro hh; exfalso; omega) | rfl | (exact i64_wraps _ (by omega) (by omega))⟩) hHeld ?_
  simp only [Act.put, List.setIfInBounds_toArray, List.set_cons_zero, List.set_cons_succ, List.getElem_toArray, List.getElem_cons_zero, List.getElem_cons_succ]
  refine wpAnyH_take (i := 9) (v := .int .u8 (a2 % 256)) rfl (by kernel_rfl) (by kernel_rfl) (by kernel_rfl) (fun _ _ _ h => h) (Or.inl ⟨by rfl, fun w _ => by (go_simp) <;> first | (intro hh; exfalso; omega) | rfl | (exact i64_wraps _ (by omega) (by omega))⟩) hHeld ?_
  simp only [Act.put, List.setIfInBounds_toArray, List.set_cons_zero, List.set_cons_succ, List.getElem_toArray, List.getElem_cons_zero, List.getElem_cons_succ]
  refine wpAnyH_take (i := 10) (v := .pointer (some ⟨HB, 5, none⟩)) rfl (by kernel_rfl) (by kernel_rfl) (by kernel_rfl) (fun _ _ _ h => h) (Or.inl ⟨by rfl, fun w _ => by (go_simp) <;> first | (intro hh; exfalso; omega) | rfl | (exact i64_wraps _ (by omega) (by omega))⟩) hHeld ?_
  simp only [Act.put, List.setIfInBounds_toArray, List.set_cons_zero, List.set_cons_succ, List.getElem_toArray, List.getElem_cons_zero, List.getElem_cons_succ]
  refine wpAnyH_take (i := 11) (v := .int .i64 a5) rfl (by kernel_rfl) (by kernel_rfl) (by kernel_rfl) (fun _ _ _ h => h) (Or.inl ⟨by rfl, fun w _ => by (go_simp) <;> first | (intro hh; exfalso; omega) | rfl | (exact i64_wraps _ (by omega) (by omega))⟩) hHeld ?_
  simp only [Act.put, List.setIfInBounds_toArray, List.set_cons_zero, List.set_cons_succ, List.getElem_toArray, List.getElem_cons_zero, List.getElem_cons_succ]
  refine wpAnyH_take (i := 12) (v := .int .u8 (a5 % 256)) rfl (by kernel_rfl) (by kernel_rfl) (by kernel_rfl) (fun _ _ _ h => h) (Or.inl ⟨by rfl, fun w _ => by (go_simp) <;> first | (intro hh; exfalso; omega) | rfl | (exact i64_wraps _ (by omega) (by omega))⟩) hHeld ?_
  simp only [Act.put, List.setIfInBounds_toArray, List.set_cons_zero, List.set_cons_succ, List.getElem_toArray, List.getElem_cons_zero, List.getElem_cons_succ]
  refine wpAnyH_take (i := 13) (v := .pointer (some ⟨HB, 8, none⟩)) rfl (by kernel_rfl) (by kernel_rfl) (by kernel_rfl) (fun _ _ _ h => h) (Or.inl ⟨by rfl, fun w _ => by (go_simp) <;> first | (intro hh; exfalso; omega) | rfl | (exact i64_wraps _ (by omega) (by omega))⟩) hHeld ?_
  simp only [Act.put, List.setIfInBounds_toArray, List.set_cons_zero, List.set_cons_succ, List.getElem_toArray, List.getElem_cons_zero, List.getElem_cons_succ]
  refine wpAnyH_take (i := 14) (v := .int .i64 a8) rfl (by kernel_rfl) (by kernel_rfl) (by kernel_rfl) (fun _ _ _ h => h) (Or.inl ⟨by rfl, fun w _ => by (go_simp) <;> first | (intro hh; exfalso; omega) | rfl | (exact i64_wraps _ (by omega) (by omega))⟩) hHeld ?_
  simp only [Act.put, List.setIfInBounds_toArray, List.set_cons_zero, List.set_cons_succ, List.getElem_toArray, List.getElem_cons_zero, List.getElem_cons_succ]
  refine wpAnyH_take (i := 15) (v := .int .u8 (a8 % 256)) rfl (by kernel_rfl) (by kernel_rfl) (by kernel_rfl) (fun _ _ _ h => h) (Or.inl ⟨by rfl, fun w _ => by (go_simp) <;> first | (intro hh; exfalso; omega) | rfl | (exact i64_wraps _ (by omega) (by omega))⟩) hHeld ?_
  simp only [Act.put, List.setIfInBounds_toArray, List.set_cons_zero, List.set_cons_succ, List.getElem_toArray, List.getElem_cons_zero, List.getElem_cons_succ]
  refine wpAnyH_take (i := 16) (v := .pointer (some ⟨OB, 0, none⟩)) rfl (by kernel_rfl) (by kernel_rfl) (by kernel_rfl) (fun _ _ _ h => h) (Or.inl ⟨by rfl, fun w _ => by (go_simp) <;> first | (intro hh; exfalso; omega) | rfl | (exact i64_wraps _ (by omega) (by omega))⟩) hHeld ?_
  simp only [Act.put, List.setIfInBounds_toArray, List.set_cons_zero, List.set_cons_succ, List.getElem_toArray, List.getElem_cons_zero, List.getElem_cons_succ]
  refine wpAnyH_ready (rs := [17]) (by kernel_rfl) (by simp) ?_
  refine AllReadyH.cons (o := _) rfl (fun K' hK => ?_) AllReadyH.nil
  go_simp
  refine hK _ _ (by refine ⟨?_, ?_, ?_, ?_, ?_⟩ <;> (go_simp)) (fun hHeld1 => ?_)
  clear hK K'
  try simp only [Act.put, List.setIfInBounds_toArray, List.set_cons_zero, List.set_cons_succ, List.getElem_toArray, List.getElem_cons_zero, List.getElem_cons_succ]
  refine wpAnyH_take (i := 18) (v := .pointer (some ⟨OB, 2, none⟩)) rfl (by kernel_rfl) (by kernel_rfl) (by kernel_rfl) (fun _ _ _ h => h) (Or.inl ⟨by rfl, fun w _ => by (go_simp) <;> first | (intro hh; exfalso; omega) | rfl | (exact i64_wraps _ (by omega) (by omega))⟩) hHeld1 ?_
  simp only [Act.put, List.setIfInBounds_toArray, List.set_cons_zero, List.set_cons_succ, List.getElem_toArray, List.getElem_cons_zero, List.getElem_cons_succ]
  refine wpAnyH_ready (rs := [19]) (by kernel_rfl) (by simp) ?_
  refine AllReadyH.cons (o := _) rfl (fun K' hK => ?_) AllReadyH.nil
  go_simp
  refine hK _ _ (by refine ⟨?_, ?_, ?_, ?_, ?_⟩ <;> (go_simp)) (fun hHeld2 => ?_)
  clear hK K'
  try simp only [Act.put, List.setIfInBounds_toArray, List.set_cons_zero, List.set_cons_succ, List.getElem_toArray, List.getElem_cons_zero, List.getElem_cons_succ]
  refine wpAnyH_take (i := 20) (v := .pointer (some ⟨OB, 7, none⟩)) rfl (by kernel_rfl) (by kernel_rfl) (by kernel_rfl) (fun _ _ _ h => h) (Or.inl ⟨by rfl, fun w _ => by (go_simp) <;> first | (intro hh; exfalso; omega) | rfl | (exact i64_wraps _ (by omega) (by omega))⟩) hHeld2 ?_
  simp only [Act.put, List.setIfInBounds_toArray, List.set_cons_zero, List.set_cons_succ, List.getElem_toArray, List.getElem_cons_zero, List.getElem_cons_succ]
  refine wpAnyH_ready (rs := [21]) (by kernel_rfl) (by simp) ?_
  refine AllReadyH.cons (o := _) rfl (fun K' hK => ?_) AllReadyH.nil
  go_simp
  refine hK _ _ (by refine ⟨?_, ?_, ?_, ?_, ?_⟩ <;> (go_simp)) (fun hHeld3 => ?_)
  clear hK K'
  try simp only [Act.put, List.setIfInBounds_toArray, List.set_cons_zero, List.set_cons_succ, List.getElem_toArray, List.getElem_cons_zero, List.getElem_cons_succ]
  refine wpAnyH_take (i := 22) (v := .pointer (some ⟨OB, 16, none⟩)) rfl (by kernel_rfl) (by kernel_rfl) (by kernel_rfl) (fun _ _ _ h => h) (Or.inl ⟨by rfl, fun w _ => by (go_simp) <;> first | (intro hh; exfalso; omega) | rfl | (exact i64_wraps _ (by omega) (by omega))⟩) hHeld3 ?_
  simp only [Act.put, List.setIfInBounds_toArray, List.set_cons_zero, List.set_cons_succ, List.getElem_toArray, List.getElem_cons_zero, List.getElem_cons_succ]
  refine wpAnyH_ready (rs := [23]) (by kernel_rfl) (by simp) ?_
  refine AllReadyH.cons (o := _) rfl (fun K' hK => ?_) AllReadyH.nil
  go_simp
  refine hK _ _ (by refine ⟨?_, ?_, ?_, ?_, ?_⟩ <;> (go_simp)) (fun hHeld4 => ?_)
  clear hK K'
  try simp only [Act.put, List.setIfInBounds_toArray, List.set_cons_zero, List.set_cons_succ, List.getElem_toArray, List.getElem_cons_zero, List.getElem_cons_succ]
  refine wpAnyH_done (by kernel_rfl) ?_ _
  refine NoPanic.normal ?_
  clear cv ch0 ch2 ch5 ch8 co0 ck0 co2 ck2 co7 ck7 co16 ck16
  have OO := Lib.hid (show Obj1 (((((w1.setCell ⟨OB, 0, none⟩ (.int .u8 (a0 % 256))).setCell ⟨OB, 2, none⟩ (.int .u8 (a2 % 256))).setCell ⟨OB, 7, none⟩ (.int .u8 (a5 % 256))).setCell ⟨OB, 16, none⟩ (.int .u8 (a8 % 256))).drew) OB #[.int .u8 (a0 % 256), .int .u8 (0), .int .u8 (a2 % 256), .int .u8 (0), .int .u8 (0), .int .u8 (0), .int .u8 (0), .int .u8 (a5 % 256), .int .u8 (0), .int .u8 (0), .int .u8 (0), .int .u8 (0), .int .u8 (0), .int .u8 (0), .int .u8 (0), .int .u8 (0), .int .u8 (a8 % 256), .int .u8 (0)] 5 from ((((OO.out.set 0 (.int .u8 (a0 % 256))).set 2 (.int .u8 (a2 % 256))).set 7 (.int .u8 (a5 % 256))).set 16 (.int .u8 (a8 % 256))).drew)
  have OH := Lib.hid (show Obj1 (((((w1.setCell ⟨OB, 0, none⟩ (.int .u8 (a0 % 256))).setCell ⟨OB, 2, none⟩ (.int .u8 (a2 % 256))).setCell ⟨OB, 7, none⟩ (.int .u8 (a5 % 256))).setCell ⟨OB, 16, none⟩ (.int .u8 (a8 % 256))).drew) HB _ _ from ((((OH.out.set_other _ _ NHO).set_other _ _ NHO).set_other _ _ NHO).set_other _ _ NHO).drew)
  have OV := Lib.hid (show Obj1 (((((w1.setCell ⟨OB, 0, none⟩ (.int .u8 (a0 % 256))).setCell ⟨OB, 2, none⟩ (.int .u8 (a2 % 256))).setCell ⟨OB, 7, none⟩ (.int .u8 (a5 % 256))).setCell ⟨OB, 16, none⟩ (.int .u8 (a8 % 256))).drew) VB _ _ from ((((OV.out.set_other _ _ NVO).set_other _ _ NVO).set_other _ _ NVO).set_other _ _ NVO).drew)
  have BW := Lib.hid (show Below w.heap.size w (((((w1.setCell ⟨OB, 0, none⟩ (.int .u8 (a0 % 256))).setCell ⟨OB, 2, none⟩ (.int .u8 (a2 % 256))).setCell ⟨OB, 7, none⟩ (.int .u8 (a5 % 256))).setCell ⟨OB, 16, none⟩ (.int .u8 (a8 % 256))).drew) from ((((BW.out.setCell ROB _).setCell ROB _).setCell ROB _).setCell ROB _).drew)
  generalize World.drew _ = w2 at OO OH OV BW ⊢
  have cv : w2.cell? ⟨VB, 0, none⟩ = some (.slice (some ⟨OB, 0, none⟩) 18 18) := OV.out.cell 0
  have ch1 : w2.cell? ⟨HB, 1, none⟩ = some (.bool mp) := OH.out.cell 1
  have co1 : w2.cell? ⟨OB, 1, none⟩ = some (.int .u8 (0)) := OO.out.cell 1
  have ck1 : w2.frozen? ⟨OB, 1, none⟩ = false := OO.out.frozen 1
  go_upto_if 31 with (fail)
  go_cut [31] from 32 to 33 (fun c wx => c = .bool mp ∧ Obj1 wx OB #[.int .u8 (a0 % 256), .int .u8 (if mp = true then 1 else 0), .int .u8 (a2 % 256), .int .u8 (0), .int .u8 (0), .int .u8 (0), .int .u8 (0), .int .u8 (a5 % 256), .int .u8 (0), .int .u8 (0), .int .u8 (0), .int .u8 (0), .int .u8 (0), .int .u8 (0), .int .u8 (0), .int .u8 (0), .int .u8 (a8 % 256), .int .u8 (0)] 5 ∧ Obj1 wx HB #[.int .i64 a0, .bool mp, .int .i64 a2, .int .i64 a3, .int .i64 a4, .int .i64 a5, .int .i64 a6, .int .i64 a7, .int .i64 a8, .int .i64 a9, .bool lf, .bool tp] 44 ∧ Obj1 wx VB #[.slice (some ⟨OB, 0, none⟩) 18 18] 100 ∧ Below w.heap.size w wx)
  case first =>
    cases mp
    · go_wp2_with fail
      go_meet
      exact ⟨rfl, OO.out, OH.out, OV.out, BW.out⟩
    · go_wp2_with fail
      go_meet
      exact ⟨rfl, OO.out.set 1 _, OH.out.set_other _ _ NHO, OV.out.set_other _ _ NVO, BW.out.setCell ROB _⟩
  case rest =>
  clear OO OH OV BW
  obtain ⟨rfl, OO, OH, OV, BW⟩ := hcut
  have OO := Lib.hid OO
  have OH := Lib.hid OH
  have OV := Lib.hid OV
  have BW := Lib.hid BW
  obtain ⟨w3, rfl⟩ : ∃ z, z = wc := ⟨_, rfl⟩
  have cv : w3.cell? ⟨VB, 0, none⟩ = some (.slice (some ⟨OB, 0, none⟩) 18 18) := OV.out.cell 0
  have ch3 : w3.cell? ⟨HB, 3, none⟩ = some (.int .i64 a3) := OH.out.cell 3
  go_upto_region 7 with ((go_at_call 75; (with_reducible refine (put16 3 3 a3 VB OB _ _ _ cv OO.out rfl rfl (by decide)).mono ?_); rintro e wq ⟨rfl, hwq⟩))
  subst hwq
  clear cv ch3
  have OO := Lib.hid (show Obj1 (((w3.setCell ⟨OB, 3, none⟩ (.int .u8 (a3 % 256))).setCell ⟨OB, 4, none⟩ (.int .u8 (a3 / 256 % 256))).drew) OB #[.int .u8 (a0 % 256), .int .u8 (if mp = true then 1 else 0), .int .u8 (a2 % 256), .int .u8 (a3 % 256), .int .u8 (a3 / 256 % 256), .int .u8 (0), .int .u8 (0), .int .u8 (a5 % 256), .int .u8 (0), .int .u8 (0), .int .u8 (0), .int .u8 (0), .int .u8 (0), .int .u8 (0), .int .u8 (0), .int .u8 (0), .int .u8 (a8 % 256), .int .u8 (0)] 5 from ((OO.out.set 3 (.int .u8 (a3 % 256))).set 4 (.int .u8 (a3 / 256 % 256))).drew)
  have OH := Lib.hid (show Obj1 (((w3.setCell ⟨OB, 3, none⟩ (.int .u8 (a3 % 256))).setCell ⟨OB, 4, none⟩ (.int .u8 (a3 / 256 % 256))).drew) HB _ _ from ((OH.out.set_other _ _ NHO).set_other _ _ NHO).drew)
  have OV := Lib.hid (show Obj1 (((w3.setCell ⟨OB, 3, none⟩ (.int .u8 (a3 % 256))).setCell ⟨OB, 4, none⟩ (.int .u8 (a3 / 256 % 256))).drew) VB _ _ from ((OV.out.set_other _ _ NVO).set_other _ _ NVO).drew)
  have BW := Lib.hid (show Below w.heap.size w (((w3.setCell ⟨OB, 3, none⟩ (.int .u8 (a3 % 256))).setCell ⟨OB, 4, none⟩ (.int .u8 (a3 / 256 % 256))).drew) from ((BW.out.setCell ROB _).setCell ROB _).drew)
  generalize World.drew _ = w4 at OO OH OV BW ⊢
  have cv : w4.cell? ⟨VB, 0, none⟩ = some (.slice (some ⟨OB, 0, none⟩) 18 18) := OV.out.cell 0
  have ch4 : w4.cell? ⟨HB, 4, none⟩ = some (.int .i64 a4) := OH.out.cell 4
  go_upto_region 8 with ((go_at_call 75; (with_reducible refine (put16 5 5 a4 VB OB _ _ _ cv OO.out rfl rfl (by decide)).mono ?_); rintro e wq ⟨rfl, hwq⟩))
  subst hwq
  clear cv ch4
  have OO := Lib.hid (show Obj1 (((w4.setCell ⟨OB, 5, none⟩ (.int .u8 (a4 % 256))).setCell ⟨OB, 6, none⟩ (.int .u8 (a4 / 256 % 256))).drew) OB #[.int .u8 (a0 % 256), .int .u8 (if mp = true then 1 else 0), .int .u8 (a2 % 256), .int .u8 (a3 % 256), .int .u8 (a3 / 256 % 256), .int .u8 (a4 % 256), .int .u8 (a4 / 256 % 256), .int .u8 (a5 % 256), .int .u8 (0), .int .u8 (0), .int .u8 (0), .int .u8 (0), .int .u8 (0), .int .u8 (0), .int .u8 (0), .int .u8 (0), .int .u8 (a8 % 256), .int .u8 (0)] 5 from ((OO.out.set 5 (.int .u8 (a4 % 256))).set 6 (.int .u8 (a4 / 256 % 256))).drew)
  have OH := Lib.hid (show Obj1 (((w4.setCell ⟨OB, 5, none⟩ (.int .u8 (a4 % 256))).setCell ⟨OB, 6, none⟩ (.int .u8 (a4 / 256 % 256))).drew) HB _ _ from ((OH.out.set_other _ _ NHO).set_other _ _ NHO).drew)
  have OV := Lib.hid (show Obj1 (((w4.setCell ⟨OB, 5, none⟩ (.int .u8 (a4 % 256))).setCell ⟨OB, 6, none⟩ (.int .u8 (a4 / 256 % 256))).drew) VB _ _ from ((OV.out.set_other _ _ NVO).set_other _ _ NVO).drew)
  have BW := Lib.hid (show Below w.heap.size w (((w4.setCell ⟨OB, 5, none⟩ (.int .u8 (a4 % 256))).setCell ⟨OB, 6, none⟩ (.int .u8 (a4 / 256 % 256))).drew) from ((BW.out.setCell ROB _).setCell ROB _).drew)
  generalize World.drew _ = w5 at OO OH OV BW ⊢
  have cv : w5.cell? ⟨VB, 0, none⟩ = some (.slice (some ⟨OB, 0, none⟩) 18 18) := OV.out.cell 0
  have ch6 : w5.cell? ⟨HB, 6, none⟩ = some (.int .i64 a6) := OH.out.cell 6
  go_upto_region 9 with ((go_at_call 75; (with_reducible refine (put16 12 12 a6 VB OB _ _ _ cv OO.out rfl rfl (by decide)).mono ?_); rintro e wq ⟨rfl, hwq⟩))
  subst hwq
  clear cv ch6
  have OO := Lib.hid (show Obj1 (((w5.setCell ⟨OB, 12, none⟩ (.int .u8 (a6 % 256))).setCell ⟨OB, 13, none⟩ (.int .u8 (a6 / 256 % 256))).drew) OB #[.int .u8 (a0 % 256), .int .u8 (if mp = true then 1 else 0), .int .u8 (a2 % 256), .int .u8 (a3 % 256), .int .u8 (a3 / 256 % 256), .int .u8 (a4 % 256), .int .u8 (a4 / 256 % 256), .int .u8 (a5 % 256), .int .u8 (0), .int .u8 (0), .int .u8 (0), .int .u8 (0), .int .u8 (a6 % 256), .int .u8 (a6 / 256 % 256), .int .u8 (0), .int .u8 (0), .int .u8 (a8 % 256), .int .u8 (0)] 5 from ((OO.out.set 12 (.int .u8 (a6 % 256))).set 13 (.int .u8 (a6 / 256 % 256))).drew)
  have OH := Lib.hid (show Obj1 (((w5.setCell ⟨OB, 12, none⟩ (.int .u8 (a6 % 256))).setCell ⟨OB, 13, none⟩ (.int .u8 (a6 / 256 % 256))).drew) HB _ _ from ((OH.out.set_other _ _ NHO).set_other _ _ NHO).drew)
  have OV := Lib.hid (show Obj1 (((w5.setCell ⟨OB, 12, none⟩ (.int .u8 (a6 % 256))).setCell ⟨OB, 13, none⟩ (.int .u8 (a6 / 256 % 256))).drew) VB _ _ from ((OV.out.set_other _ _ NVO).set_other _ _ NVO).drew)
  have BW := Lib.hid (show Below w.heap.size w (((w5.setCell ⟨OB, 12, none⟩ (.int .u8 (a6 % 256))).setCell ⟨OB, 13, none⟩ (.int .u8 (a6 / 256 % 256))).drew) from ((BW.out.setCell ROB _).setCell ROB _).drew)
  generalize World.drew _ = w6 at OO OH OV BW ⊢
  have cv : w6.cell? ⟨VB, 0, none⟩ = some (.slice (some ⟨OB, 0, none⟩) 18 18) := OV.out.cell 0
  have ch7 : w6.cell? ⟨HB, 7, none⟩ = some (.int .i64 a7) := OH.out.cell 7
  go_upto_region 10 with ((go_at_call 75; (with_reducible refine (put16 14 14 a7 VB OB _ _ _ cv OO.out rfl rfl (by decide)).mono ?_); rintro e wq ⟨rfl, hwq⟩))
  subst hwq
  clear cv ch7
  have OO := Lib.hid (show Obj1 (((w6.setCell ⟨OB, 14, none⟩ (.int .u8 (a7 % 256))).setCell ⟨OB, 15, none⟩ (.int .u8 (a7 / 256 % 256))).drew) OB #[.int .u8 (a0 % 256), .int .u8 (if mp = true then 1 else 0), .int .u8 (a2 % 256), .int .u8 (a3 % 256), .int .u8 (a3 / 256 % 256), .int .u8 (a4 % 256), .int .u8 (a4 / 256 % 256), .int .u8 (a5 % 256), .int .u8 (0), .int .u8 (0), .int .u8 (0), .int .u8 (0), .int .u8 (a6 % 256), .int .u8 (a6 / 256 % 256), .int .u8 (a7 % 256), .int .u8 (a7 / 256 % 256), .int .u8 (a8 % 256), .int .u8 (0)] 5 from ((OO.out.set 14 (.int .u8 (a7 % 256))).set 15 (.int .u8 (a7 / 256 % 256))).drew)
  have OH := Lib.hid (show Obj1 (((w6.setCell ⟨OB, 14, none⟩ (.int .u8 (a7 % 256))).setCell ⟨OB, 15, none⟩ (.int .u8 (a7 / 256 % 256))).drew) HB _ _ from ((OH.out.set_other _ _ NHO).set_other _ _ NHO).drew)
  have OV := Lib.hid (show Obj1 (((w6.setCell ⟨OB, 14, none⟩ (.int .u8 (a7 % 256))).setCell ⟨OB, 15, none⟩ (.int .u8 (a7 / 256 % 256))).drew) VB _ _ from ((OV.out.set_other _ _ NVO).set_other _ _ NVO).drew)
  have BW := Lib.hid (show Below w.heap.size w (((w6.setCell ⟨OB, 14, none⟩ (.int .u8 (a7 % 256))).setCell ⟨OB, 15, none⟩ (.int .u8 (a7 / 256 % 256))).drew) from ((BW.out.setCell ROB _).setCell ROB _).drew)
  generalize World.drew _ = w7 at OO OH OV BW ⊢
  have cv : w7.cell? ⟨VB, 0, none⟩ = some (.slice (some ⟨OB, 0, none⟩) 18 18) := OV.out.cell 0
  have ch9 : w7.cell? ⟨HB, 9, none⟩ = some (.int .i64 a9) := OH.out.cell 9
  have ch10 : w7.cell? ⟨HB, 10, none⟩ = some (.bool lf) := OH.out.cell 10
  have co17 : w7.cell? ⟨OB, 17, none⟩ = some (.int .u8 (0)) := OO.out.cell 17
  have ck17 : w7.frozen? ⟨OB, 17, none⟩ = false := OO.out.frozen 17
  have a15 : bits .and .i64 a9 15 = a9 % 16 := i64_and_mask a9 4 (by decide)
  go_upto_if 57 with (fail)
  clear cv ch9 ch10 co17 ck17 a15
  have OO := Lib.hid (show Obj1 ((w7.setCell ⟨OB, 17, none⟩ (.int .u8 (a9 % 16)))) OB #[.int .u8 (a0 % 256), .int .u8 (if mp = true then 1 else 0), .int .u8 (a2 % 256), .int .u8 (a3 % 256), .int .u8 (a3 / 256 % 256), .int .u8 (a4 % 256), .int .u8 (a4 / 256 % 256), .int .u8 (a5 % 256), .int .u8 (0), .int .u8 (0), .int .u8 (0), .int .u8 (0), .int .u8 (a6 % 256), .int .u8 (a6 / 256 % 256), .int .u8 (a7 % 256), .int .u8 (a7 / 256 % 256), .int .u8 (a8 % 256), .int .u8 (a9 % 16)] 5 from (OO.out.set 17 (.int .u8 (a9 % 16))))
  have OH := Lib.hid (show Obj1 ((w7.setCell ⟨OB, 17, none⟩ (.int .u8 (a9 % 16)))) HB _ _ from (OH.out.set_other _ _ NHO))
  have OV := Lib.hid (show Obj1 ((w7.setCell ⟨OB, 17, none⟩ (.int .u8 (a9 % 16)))) VB _ _ from (OV.out.set_other _ _ NVO))
  have BW := Lib.hid (show Below w.heap.size w ((w7.setCell ⟨OB, 17, none⟩ (.int .u8 (a9 % 16)))) from (BW.out.setCell ROB _))
  generalize World.setCell _ _ _ = w8 at OO OH OV BW ⊢
  have cv : w8.cell? ⟨VB, 0, none⟩ = some (.slice (some ⟨OB, 0, none⟩) 18 18) := OV.out.cell 0
  have co17 : w8.cell? ⟨OB, 17, none⟩ = some (.int .u8 (a9 % 16)) := OO.out.cell 17
  have ck17 : w8.frozen? ⟨OB, 17, none⟩ = false := OO.out.frozen 17
  go_cut [57] from 58 to 62 (fun c wx => c = .bool lf ∧ Obj1 wx OB #[.int .u8 (a0 % 256), .int .u8 (if mp = true then 1 else 0), .int .u8 (a2 % 256), .int .u8 (a3 % 256), .int .u8 (a3 / 256 % 256), .int .u8 (a4 % 256), .int .u8 (a4 / 256 % 256), .int .u8 (a5 % 256), .int .u8 (0), .int .u8 (0), .int .u8 (0), .int .u8 (0), .int .u8 (a6 % 256), .int .u8 (a6 / 256 % 256), .int .u8 (a7 % 256), .int .u8 (a7 / 256 % 256), .int .u8 (a8 % 256), .int .u8 (if lf = true then bits .or .u8 (a9 % 16) 16 else a9 % 16)] 5 ∧ Obj1 wx HB #[.int .i64 a0, .bool mp, .int .i64 a2, .int .i64 a3, .int .i64 a4, .int .i64 a5, .int .i64 a6, .int .i64 a7, .int .i64 a8, .int .i64 a9, .bool lf, .bool tp] 44 ∧ Obj1 wx VB #[.slice (some ⟨OB, 0, none⟩) 18 18] 100 ∧ Below w.heap.size w wx)
  case first =>
    cases lf
    · go_wp2_with fail
      go_meet
      exact ⟨rfl, OO.out, OH.out, OV.out, BW.out⟩
    · go_wp2_with fail
      go_meet
      exact ⟨rfl, OO.out.set 17 _, OH.out.set_other _ _ NHO, OV.out.set_other _ _ NVO, BW.out.setCell ROB _⟩
  case rest =>
  clear OO OH OV BW
  obtain ⟨rfl, OO, OH, OV, BW⟩ := hcut
  have OO := Lib.hid OO
  have OH := Lib.hid OH
  have OV := Lib.hid OV
  have BW := Lib.hid BW
  obtain ⟨w9, rfl⟩ : ∃ z, z = wc := ⟨_, rfl⟩
  obtain ⟨q1, hq1⟩ : ∃ q, (if lf = true then bits .or .u8 (a9 % 16) 16 else a9 % 16) = q := ⟨_, rfl⟩
  rw [hq1] at OO
  have HQ1 := Lib.hid hq1
  clear hq1
  have cv : w9.cell? ⟨VB, 0, none⟩ = some (.slice (some ⟨OB, 0, none⟩) 18 18) := OV.out.cell 0
  have ch11 : w9.cell? ⟨HB, 11, none⟩ = some (.bool tp) := OH.out.cell 11
  have co17 : w9.cell? ⟨OB, 17, none⟩ = some (.int .u8 (q1)) := OO.out.cell 17
  have ck17 : w9.frozen? ⟨OB, 17, none⟩ = false := OO.out.frozen 17
  go_upto_if 64 with (fail)
  go_cut [64] from 65 to 69 (fun c wx => c = .bool tp ∧ Obj1 wx OB #[.int .u8 (a0 % 256), .int .u8 (if mp = true then 1 else 0), .int .u8 (a2 % 256), .int .u8 (a3 % 256), .int .u8 (a3 / 256 % 256), .int .u8 (a4 % 256), .int .u8 (a4 / 256 % 256), .int .u8 (a5 % 256), .int .u8 (0), .int .u8 (0), .int .u8 (0), .int .u8 (0), .int .u8 (a6 % 256), .int .u8 (a6 / 256 % 256), .int .u8 (a7 % 256), .int .u8 (a7 / 256 % 256), .int .u8 (a8 % 256), .int .u8 (if tp = true then bits .or .u8 q1 32 else q1)] 5 ∧ Obj1 wx HB #[.int .i64 a0, .bool mp, .int .i64 a2, .int .i64 a3, .int .i64 a4, .int .i64 a5, .int .i64 a6, .int .i64 a7, .int .i64 a8, .int .i64 a9, .bool lf, .bool tp] 44 ∧ Obj1 wx VB #[.slice (some ⟨OB, 0, none⟩) 18 18] 100 ∧ Below w.heap.size w wx)
  case first =>
    cases tp
    · go_wp2_with fail
      go_meet
      exact ⟨rfl, OO.out, OH.out, OV.out, BW.out⟩
    · go_wp2_with fail
      go_meet
      exact ⟨rfl, OO.out.set 17 _, OH.out.set_other _ _ NHO, OV.out.set_other _ _ NVO, BW.out.setCell ROB _⟩
  case rest =>
  clear OO OH OV BW
  obtain ⟨rfl, OO, OH, OV, BW⟩ := hcut
  have OO := Lib.hid OO
  have OH := Lib.hid OH
  have OV := Lib.hid OV
  have BW := Lib.hid BW
  obtain ⟨w10, rfl⟩ : ∃ z, z = wc := ⟨_, rfl⟩
  obtain ⟨q2, hq2⟩ : ∃ q, (if tp = true then bits .or .u8 q1 32 else q1) = q := ⟨_, rfl⟩
  rw [hq2] at OO
  have HQ2 := Lib.hid hq2
  clear hq2
  have cv : w10.cell? ⟨VB, 0, none⟩ = some (.slice (some ⟨OB, 0, none⟩) 18 18) := OV.out.cell 0
  obtain ⟨l, hl⟩ : ∃ l : List Int, [a0 % 256, if mp = true then 1 else 0, a2 % 256, a3 % 256, a3 / 256 % 256, a4 % 256, a4 / 256 % 256, a5 % 256, 0, 0, 0, 0, a6 % 256, a6 / 256 % 256, a7 % 256, a7 / 256 % 256, a8 % 256, q2] = l := ⟨_, rfl⟩
  have hlen : l.length = 18 := by rw [← hl]; rfl
  have OO := Lib.hid (show Obj1 w10 OB (List.toArray (l.map (Value.int .u8))) 5 from by rw [← hl]; exact OO.out)
  have hcv := conv_str w10 OB 18 18 l hlen OO.out.range0 _ _ _ Try.underlying100 Try.underlying5 Try.underlying9
  have HL := Lib.hid hl
  have h18 : (strOf l).size = 18 := strOf_size l hlen
  obtain ⟨s, hs⟩ : ∃ s, strOf l = s := ⟨_, rfl⟩
  rw [hs] at hcv h18
  clear hl
  obtain ⟨c, hc⟩ : ∃ c, chkS s = c := ⟨_, rfl⟩
  have HC := Lib.hid (fun w0 => checks_d s c w0 h18 hc)
  have HEQS := Lib.hid (show TBPost [.int .i64 a0, .bool mp, .int .i64 a2, .int .i64 a3, .int .i64 a4, .int .i64 a5, .int .i64 a6, .int .i64 a7, .int .i64 a8, .int .i64 a9, .bool lf, .bool tp] (strOf (bytesL a0 mp a2 a3 a4 a5 a6 a7 a8 a9 lf tp)) w = TBPost [.int .i64 a0, .bool mp, .int .i64 a2, .int .i64 a3, .int .i64 a4, .int .i64 a5, .int .i64 a6, .int .i64 a7, .int .i64 a8, .int .i64 a9, .bool lf, .bool tp] s w by rw [← hs, ← HL.out, ← HQ2.out, ← HQ1.out]; rfl)
  have HEN := Lib.hid (fun (w' : World) (hf : c.first = none) (he : headL s = [.int .i64 a0, .bool mp, .int .i64 a2, .int .i64 a3, .int .i64 a4, .int .i64 a5, .int .i64 a6, .int .i64 a7, .int .i64 a8, .int .i64 a9, .bool lf, .bool tp]) (hb : Below w.heap.size w w') => show TBPost [.int .i64 a0, .bool mp, .int .i64 a2, .int .i64 a3, .int .i64 a4, .int .i64 a5, .int .i64 a6, .int .i64 a7, .int .i64 a8, .int .i64 a9, .bool lf, .bool tp] (strOf (bytesL a0 mp a2 a3 a4 a5 a6 a7 a8 a9 lf tp)) w (.returned (.tuple #[.string s, .int .i64 0])) w' by rw [HEQS.out]; exact ⟨hb, Or.inl ⟨rfl, by rw [hc]; exact hf, he⟩⟩)
  have HEB := Lib.hid (fun (w' : World) (hf : c.first ≠ none ∨ headL s ≠ [.int .i64 a0, .bool mp, .int .i64 a2, .int .i64 a3, .int .i64 a4, .int .i64 a5, .int .i64 a6, .int .i64 a7, .int .i64 a8, .int .i64 a9, .bool lf, .bool tp]) (hb : Below w.heap.size w w') => show TBPost [.int .i64 a0, .bool mp, .int .i64 a2, .int .i64 a3, .int .i64 a4, .int .i64 a5, .int .i64 a6, .int .i64 a7, .int .i64 a8, .int .i64 a9, .bool lf, .bool tp] (strOf (bytesL a0 mp a2 a3 a4 a5 a6 a7 a8 a9 lf tp)) w (.returned (.tuple #[.string ⟨#[]⟩, .int .i64 6])) w' by rw [HEQS.out]; exact ⟨hb, Or.inr ⟨rfl, by rw [hc]; exact hf⟩⟩)
  have HCV := Lib.hid (fun (w0 : World) (hr : w0.rangeAt OB 0 (l.map (Value.int .u8))) => hs ▸ conv_str w0 OB 18 18 l hlen hr _ _ _ Try.underlying100 Try.underlying5 Try.underlying9)
  go_wp2_with fail
  refine (HC.out _).mono ?_
  rintro e w3 ⟨B, T, rfl, hOC, hBB, hb⟩
  have OC := Lib.hid hOC
  have lB := hOC.lt
  have sz3 := hb.size
  have OO := Lib.hid (OO.out.below hb OO.out.lt); have OH := Lib.hid (OH.out.below hb OH.out.lt); have OV := Lib.hid (OV.out.below hb OV.out.lt); have BW := Lib.hid (bthen hb BW.out BW.out.size)
  clear hb hOC HC hcv cv
  go_wp2_with fail
  go_loopw [7, 74] (fun q7 q74 wr => ∃ i : Nat, i ≤ 12 ∧ q74 = .int .i64 i ∧ c.first = c.from (12 - i) i ∧ Below w3.heap.size w3 wr) (fun _ q74 _ => 12 - (intOf q74).toNat)
  case atStart => exact ⟨0, by omega, rfl, rfl, Below.refl _ _⟩
  case round =>
    obtain ⟨i, hi, rfl, hf, hb⟩ := hrel
    have Hb := Lib.hid hb
    have Hf := Lib.hid hf
    clear hf
    by_cases hlt : i < 12
    · have D1 : decide ((i : Int) < 12) = true := by rw [decide_eq_true_iff]; omega
      obtain ⟨r0, r1, r2, r3⟩ := c.row_cells i hlt
      obtain ⟨⟨wr0, kd, at0, lo⟩, hrow⟩ : ∃ r, c.row i = r := ⟨_, rfl⟩
      have HO2 := OC.out.below hb lB
      rw [hrow] at r0 r1 r2 r3
      have c0 : wr.cell? ⟨B, i * 4, none⟩ = some (.bool wr0) := (HO2.cell _).trans r0
      have c1 : wr.cell? ⟨B, i * 4 + 1, none⟩ = some (.int .i64 kd) := (HO2.cell _).trans r1
      have c2 : wr.cell? ⟨B, i * 4 + 2, none⟩ = some (.int .i64 at0) := (HO2.cell _).trans r2
      have c3 : wr.cell? ⟨B, i * 4 + 3, none⟩ = some (.bool lo) := (HO2.cell _).trans r3
      have HROW := Lib.hid hrow
      clear r0 r1 r2 r3 HO2 hrow hb
      cases wr0
      · go_wp2_with fail
        exact ⟨⟨i + 1, by omega, by go_num, Hf.out.trans (c.from_next hlt HROW.out rfl), Hb.out.alloc Hb.out.size _⟩, by simp [intOf]; omega⟩
      · go_wp2_with fail
        go_ret2
        exact HEB.out _ (Or.inl (by rw [Hf.out, c.from_bad hlt HROW.out rfl]; exact fun h => by cases h)) (bthen (Hb.out.alloc Hb.out.size _) BW.out BW.out.size)
    · obtain rfl : i = 12 := by omega
      have D1 : decide (((12 : Nat) : Int) < 12) = false := by decide
      have hnone : c.first = none := Hf.out
      have OO := Lib.hid (OO.out.below hb OO.out.lt); have OH := Lib.hid (OH.out.below hb OH.out.lt); have OV := Lib.hid (OV.out.below hb OV.out.lt); have BW := Lib.hid (bthen hb BW.out BW.out.size)
      clear hb Hb Hf HQ1 HQ2 HL HEQS OC
      go_upto_region 21 with (fail)
      by_cases heq : headL s = [.int .i64 a0, .bool mp, .int .i64 a2, .int .i64 a3, .int .i64 a4, .int .i64 a5, .int .i64 a6, .int .i64 a7, .int .i64 a8, .int .i64 a9, .bool lf, .bool tp]
      · have HEN2 := Lib.hid (HEN.out · hnone heq)
        have HH := Lib.hid (fun w0 => heq ▸ thead_any s w0 h18)
        clear HEN HEB heq
        refine wp_region_noPanic ?_
        refine wp_region_held_drew (S := fun w' => w'.cell? ⟨VB, 0, none⟩ = some (.slice (some ⟨OB, 0, none⟩) 18 18) ∧ w'.rangeAt OB 0 (l.map (Value.int .u8)) ∧ w'.rangeAt HB 0 [.int .i64 a0, .bool mp, .int .i64 a2, .int .i64 a3, .int .i64 a4, .int .i64 a5, .int .i64 a6, .int .i64 a7, .int .i64 a8, .int .i64 a9, .bool lf, .bool tp]) (by kernel_rfl) ⟨OV.out.drew.cell 0, OO.out.drew.range0, OH.out.drew.range0⟩ (fun hHeld => ?_)
        refine wpAnyH_take (i := 0) (v := .slice (some ⟨OB, 0, none⟩) 18 18) rfl (by kernel_rfl) (by kernel_rfl) (by kernel_rfl) (fun _ _ _ h => h) (Or.inl ⟨by rfl, fun w hS => by (obtain ⟨s1, s2, s3⟩ := hS; go_simp)⟩) hHeld ?_
        simp only [Act.put, List.setIfInBounds_toArray, List.set_cons_zero, List.set_cons_succ, List.getElem_toArray, List.getElem_cons_zero, List.getElem_cons_succ]
        refine wpAnyH_take (i := 1) (v := .string s) rfl (by kernel_rfl) (by kernel_rfl) (by kernel_rfl) (fun _ _ _ h => h) (Or.inl ⟨by rfl, fun w hS => by (have s4 := HCV.out w hS.2.1; go_simp)⟩) hHeld ?_
        simp only [Act.put, List.setIfInBounds_toArray, List.set_cons_zero, List.set_cons_succ, List.getElem_toArray, List.getElem_cons_zero, List.getElem_cons_succ]
        refine wpAnyH_take (i := 3) rfl (by kernel_rfl) (by kernel_rfl) (by kernel_rfl) (fun _ _ _ h => h) (yieldsIf_load_mid (by rfl) 44 _ rfl HB 0 rfl [.int .i64 a0, .bool mp, .int .i64 a2, .int .i64 a3, .int .i64 a4, .int .i64 a5, .int .i64 a6, .int .i64 a7, .int .i64 a8, .int .i64 a9, .bool lf, .bool tp] _ (fun _ h => h.2.2) Try.underlying44 rfl (by kernel_rfl)) hHeld ?_
        simp only [Act.put, List.setIfInBounds_toArray, List.set_cons_zero, List.set_cons_succ, List.getElem_toArray, List.getElem_cons_zero, List.getElem_cons_succ]
        refine wpAnyH_ready (rs := [2]) (by kernel_rfl) (by simp) ?_
        refine AllReadyH.cons (o := _) rfl (fun K' hK => ?_) AllReadyH.nil
        go_simp
        refine (HH.out _).mono ?_
        rintro e w5 ⟨rfl, hb5⟩
        have OO := Lib.hid (OO.out.drew); have OH := Lib.hid (OH.out.drew); have OV := Lib.hid (OV.out.drew); have BW := Lib.hid (BW.out.drew)
        have OO := Lib.hid (OO.out.below hb5 OO.out.lt); have OH := Lib.hid (OH.out.below hb5 OH.out.lt); have OV := Lib.hid (OV.out.below hb5 OV.out.lt); have BW := Lib.hid (bthen hb5 BW.out BW.out.size)
        clear hb5
        go_wp2_with fail
        refine hK _ _ ⟨OV.out.cell 0, OO.out.range0, OH.out.range0⟩ (fun hH2 => ?_)
        clear hK K'
        try simp only [Act.put, List.setIfInBounds_toArray, List.set_cons_zero, List.set_cons_succ, List.getElem_toArray, List.getElem_cons_zero, List.getElem_cons_succ]
        refine wpAnyH_take (i := 4) (v := .bool false) rfl (by kernel_rfl) (by kernel_rfl) (by kernel_rfl) (fun _ _ _ h => h) (Or.inl ⟨by rfl, fun w hS => by go_simp⟩) hH2 ?_
        simp only [Act.put, List.setIfInBounds_toArray, List.set_cons_zero, List.set_cons_succ, List.getElem_toArray, List.getElem_cons_zero, List.getElem_cons_succ]
        refine wpAnyH_done (by kernel_rfl) ?_ _
        refine NoPanic.normal ?_
        have cv := OV.out.cell 0
        have hcv := HCV.out _ OO.out.range0
        go_wp2_with fail
        go_ret2
        exact HEN2.out _ BW.out
      · have HEB2 := Lib.hid (HEB.out · (Or.inr heq))
        obtain ⟨b0, b1, b2, b3, b4, b5, b6, b7, b8, b9, b10, b11, hbv⟩ : ∃ b0 b1 b2 b3 b4 b5 b6 b7 b8 b9 b10 b11, headL s = [.int .i64 b0, .bool b1, .int .i64 b2, .int .i64 b3, .int .i64 b4, .int .i64 b5, .int .i64 b6, .int .i64 b7, .int .i64 b8, .int .i64 b9, .bool b10, .bool b11] := ⟨_, _, _, _, _, _, _, _, _, _, _, _, rfl⟩
        have HH := Lib.hid (fun w0 => hbv ▸ thead_any s w0 h18)
        rw [hbv] at heq
        refine wp_region_noPanic ?_
        refine wp_region_held_drew (S := fun w' => w'.cell? ⟨VB, 0, none⟩ = some (.slice (some ⟨OB, 0, none⟩) 18 18) ∧ w'.rangeAt OB 0 (l.map (Value.int .u8)) ∧ w'.rangeAt HB 0 [.int .i64 a0, .bool mp, .int .i64 a2, .int .i64 a3, .int .i64 a4, .int .i64 a5, .int .i64 a6, .int .i64 a7, .int .i64 a8, .int .i64 a9, .bool lf, .bool tp]) (by kernel_rfl) ⟨OV.out.drew.cell 0, OO.out.drew.range0, OH.out.drew.range0⟩ (fun hHeld => ?_)
        refine wpAnyH_take (i := 0) (v := .slice (some ⟨OB, 0, none⟩) 18 18) rfl (by kernel_rfl) (by kernel_rfl) (by kernel_rfl) (fun _ _ _ h => h) (Or.inl ⟨by rfl, fun w hS => by (obtain ⟨s1, s2, s3⟩ := hS; go_simp)⟩) hHeld ?_
        simp only [Act.put, List.setIfInBounds_toArray, List.set_cons_zero, List.set_cons_succ, List.getElem_toArray, List.getElem_cons_zero, List.getElem_cons_succ]
        refine wpAnyH_take (i := 1) (v := .string s) rfl (by kernel_rfl) (by kernel_rfl) (by kernel_rfl) (fun _ _ _ h => h) (Or.inl ⟨by rfl, fun w hS => by (have s4 := HCV.out w hS.2.1; go_simp)⟩) hHeld ?_
        simp only [Act.put, List.setIfInBounds_toArray, List.set_cons_zero, List.set_cons_succ, List.getElem_toArray, List.getElem_cons_zero, List.getElem_cons_succ]
        refine wpAnyH_take (i := 3) rfl (by kernel_rfl) (by kernel_rfl) (by kernel_rfl) (fun _ _ _ h => h) (yieldsIf_load_mid (by rfl) 44 _ rfl HB 0 rfl [.int .i64 a0, .bool mp, .int .i64 a2, .int .i64 a3, .int .i64 a4, .int .i64 a5, .int .i64 a6, .int .i64 a7, .int .i64 a8, .int .i64 a9, .bool lf, .bool tp] _ (fun _ h => h.2.2) Try.underlying44 rfl (by kernel_rfl)) hHeld ?_
        simp only [Act.put, List.setIfInBounds_toArray, List.set_cons_zero, List.set_cons_succ, List.getElem_toArray, List.getElem_cons_zero, List.getElem_cons_succ]
        refine wpAnyH_ready (rs := [2]) (by kernel_rfl) (by simp) ?_
        refine AllReadyH.cons (o := _) rfl (fun K' hK => ?_) AllReadyH.nil
        go_simp
        refine (HH.out _).mono ?_
        rintro e w5 ⟨rfl, hb5⟩
        have OO := Lib.hid (OO.out.drew); have OH := Lib.hid (OH.out.drew); have OV := Lib.hid (OV.out.drew); have BW := Lib.hid (BW.out.drew)
        have OO := Lib.hid (OO.out.below hb5 OO.out.lt); have OH := Lib.hid (OH.out.below hb5 OH.out.lt); have OV := Lib.hid (OV.out.below hb5 OV.out.lt); have BW := Lib.hid (bthen hb5 BW.out BW.out.size)
        clear hb5
        go_wp2_with fail
        refine hK _ _ ⟨OV.out.cell 0, OO.out.range0, OH.out.range0⟩ (fun hH2 => ?_)
        clear hK K'
        try simp only [Act.put, List.setIfInBounds_toArray, List.set_cons_zero, List.set_cons_succ, List.getElem_toArray, List.getElem_cons_zero, List.getElem_cons_succ]
        refine wpAnyH_take (i := 4) (v := .bool true) rfl (by kernel_rfl) (by kernel_rfl) (by kernel_rfl) (fun _ _ _ h => h) (Or.inl ⟨by rfl, fun w hS => by (go_simp; rintro rfl rfl rfl rfl rfl rfl rfl rfl rfl rfl rfl rfl; exact heq rfl)⟩) hH2 ?_
        simp only [Act.put, List.setIfInBounds_toArray, List.set_cons_zero, List.set_cons_succ, List.getElem_toArray, List.getElem_cons_zero, List.getElem_cons_succ]
        refine wpAnyH_done (by kernel_rfl) ?_ _
        refine NoPanic.normal ?_
        go_wp2_with fail
        go_ret2
        exact HEB2.out _ BW.out
end Go.Proofs.Ytomikbecbbjhoaa

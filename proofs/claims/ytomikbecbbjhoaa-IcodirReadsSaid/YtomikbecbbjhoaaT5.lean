/- tgahead.head, walked. -/
import Derived.Test.YtomikbecbbjhoaaT3
import Derived.Test.YtomikbecbbjhoaaO3
import Derived.Deep.CutRange
import Derived.Deep.RegionHeld3
import Derived.Test.YtomikbecbbjhoaaLT
namespace Go.Proofs.Ytomikbecbbjhoaa
open Go.RowKit
set_option linter.unusedVariables false
set_option linter.unusedSimpArgs false
def RA (w : World) (L : List Value) (e : Ending) (w' : World) : Prop := e = .returned (.agg L.toArray) ∧ Below w.heap.size w w'
theorem bit16 (f : Int) (h0 : 0 ≤ f) (h1 : f < 256) : (bits .and .u8 f 16 != 0) = (f / 16 % 2 == 1) := by
  obtain ⟨k, rfl⟩ := Int.eq_ofNat_of_zero_le h0
  exact (by decide +kernel : ∀ k : Fin 256, (bits .and .u8 ((k.val : Nat) : Int) 16 != 0) = (((k.val : Nat) : Int) / 16 % 2 == 1)) ⟨k, by omega⟩
theorem bit32 (f : Int) (h0 : 0 ≤ f) (h1 : f < 256) : (bits .and .u8 f 32 != 0) = (f / 32 % 2 == 1) := by
  obtain ⟨k, rfl⟩ := Int.eq_ofNat_of_zero_le h0
  exact (by decide +kernel : ∀ k : Fin 256, (bits .and .u8 ((k.val : Nat) : Int) 32 != 0) = (((k.val : Nat) : Int) / 32 % 2 == 1)) ⟨k, by omega⟩
def headL (s : ByteArray) : List Value :=
  [.int .i64 (byN s 0), .bool (byN s 1 == 1), .int .i64 (byN s 2), .int .i64 (if (byN s 1 == 1) = true then wordN s 3 else 0), .int .i64 (if (byN s 1 == 1) = true then wordN s 5 else 0), .int .i64 (if (byN s 1 == 1) = true then byN s 7 else 0),
    .int .i64 (wordN s 12), .int .i64 (wordN s 14), .int .i64 (byN s 16), .int .i64 (byN s 17 % 16), .bool (byN s 17 / 16 % 2 == 1), .bool (byN s 17 / 32 % 2 == 1)]
set_option maxRecDepth 100000 in
set_option maxHeartbeats 8000000 in
theorem thead_any (s : ByteArray) (w : World) (h : s.size = 18) : Calls Try.prog 73 #[.string s] w (RA w (headL s)) := by
  have b0 := byN_bd s 0
  have b1 := byN_bd s 1
  have b2 := byN_bd s 2
  have b7 := byN_bd s 7
  have b16 := byN_bd s 16
  have b17 := byN_bd s 17
  have i0 : 0 < s.size := by omega
  have i1 : 1 < s.size := by omega
  have i2 : 2 < s.size := by omega
  have i7 : 7 < s.size := by omega
  have i16 : 16 < s.size := by omega
  have i17 : 17 < s.size := by omega
  have E : headL s = headL s := rfl
  conv at E => rhs; unfold headL
  obtain ⟨x0, hx0⟩ : ∃ x, byN s 0 = x := ⟨_, rfl⟩
  obtain ⟨x1, hx1⟩ : ∃ x, byN s 1 = x := ⟨_, rfl⟩
  obtain ⟨t, ht⟩ : ∃ x, byN s 2 = x := ⟨_, rfl⟩
  obtain ⟨x7, hx7⟩ : ∃ x, byN s 7 = x := ⟨_, rfl⟩
  obtain ⟨n, hn⟩ : ∃ x, byN s 16 = x := ⟨_, rfl⟩
  obtain ⟨f, hf⟩ : ∃ x, byN s 17 = x := ⟨_, rfl⟩
  obtain ⟨FI, hFI⟩ : ∃ x, wordN s 3 = x := ⟨_, rfl⟩
  obtain ⟨C, hC⟩ : ∃ x, wordN s 5 = x := ⟨_, rfl⟩
  obtain ⟨W, hW⟩ : ∃ x, wordN s 12 = x := ⟨_, rfl⟩
  obtain ⟨H, hH⟩ : ∃ x, wordN s 14 = x := ⟨_, rfl⟩
  have g0 : ((s[0]).toNat : Int) = x0 := hx0 ▸ byN_get s 0 i0
  have g1 : ((s[1]).toNat : Int) = x1 := hx1 ▸ byN_get s 1 i1
  have g2 : ((s[2]).toNat : Int) = t := ht ▸ byN_get s 2 i2
  have g7 : ((s[7]).toNat : Int) = x7 := hx7 ▸ byN_get s 7 i7
  have g16 : ((s[16]).toNat : Int) = n := hn ▸ byN_get s 16 i16
  have g17 : ((s[17]).toNat : Int) = f := hf ▸ byN_get s 17 i17
  have HW3 := Lib.hid (fun w0 => word_at s 3 3 FI w0 rfl hFI (by omega) (by omega))
  have HW5 := Lib.hid (fun w0 => word_at s 5 5 C w0 rfl hC (by omega) (by omega))
  have HW12 := Lib.hid (fun w0 => word_at s 12 12 W w0 rfl hW (by omega) (by omega))
  have HW14 := Lib.hid (fun w0 => word_at s 14 14 H w0 rfl hH (by omega) (by omega))
  rw [hx0, hx1, ht, hx7, hn, hf, hFI, hC, hW, hH] at E
  rw [hx0] at b0
  rw [hx1] at b1
  rw [ht] at b2
  rw [hx7] at b7
  rw [hn] at b16
  rw [hf] at b17
  obtain ⟨th, eth⟩ : ∃ b, (x1 == 1) = b := ⟨_, rfl⟩
  obtain ⟨l16, e16⟩ : ∃ b, (f / 16 % 2 == 1) = b := ⟨_, rfl⟩
  obtain ⟨l32, e32⟩ : ∃ b, (f / 32 % 2 == 1) = b := ⟨_, rfl⟩
  have a15 : bits .and .i64 f 15 = f % 16 := i64_and_mask f 4 (by decide)
  have a16 : (bits .and .u8 f 16 != 0) = l16 := (bit16 f b17.1 b17.2).trans e16
  have a32 : (bits .and .u8 f 32 != 0) = l32 := (bit32 f b17.1 b17.2).trans e32
  rw [eth, e16, e32] at E
  have E := Lib.hid E
  have w7 : wrap64 x7 = x7 := IntWalk.wrap64_in x7 (by omega)
  have wn : wrap64 n = n := IntWalk.wrap64_in n (by omega)
  have wt : wrap64 t = t := IntWalk.wrap64_in t (by omega)
  have wf : wrap64 f = f := IntWalk.wrap64_in f (by omega)
  have w0' : wrap64 x0 = x0 := IntWalk.wrap64_in x0 (by omega)
  clear hx0 hx1 ht hx7 hn hf hFI hC hW hH e16 e32 h
  go_enter Try.func73, Try.ntmps73
  go_upto_region 1 with (fail)
  have OR := Lib.hid (obj1_new w #[.int .i64 0, .bool false, .int .i64 0, .int .i64 0, .int .i64 0, .int .i64 0, .int .i64 0, .int .i64 0, .int .i64 0, .int .i64 0, .bool false, .bool false] 44)
  have BR := Lib.hid ((Below.refl w.heap.size w).alloc (Nat.le_refl _) (.cells #[.int .i64 0, .bool false, .int .i64 0, .int .i64 0, .int .i64 0, .int .i64 0, .int .i64 0, .int .i64 0, .int .i64 0, .int .i64 0, .bool false, .bool false] 44))
  generalize World.alloc _ _ = w1 at OR BR ⊢
  go_cut [3] from 4 to 32 (fun c wx => ∃ XB, c = .pointer (some ⟨XB, 0, none⟩) ∧ Obj1 wx XB (List.toArray [.int .i64 x0, .bool th, .int .i64 t, .int .i64 0, .int .i64 0, .int .i64 0, .int .i64 W, .int .i64 H, .int .i64 n, .int .i64 (f % 16), .bool l16, .bool l32]) 44 ∧ Obj1 wx w.heap.size #[.int .i64 0, .bool false, .int .i64 0, .int .i64 0, .int .i64 0, .int .i64 0, .int .i64 0, .int .i64 0, .int .i64 0, .int .i64 0, .bool false, .bool false] 44 ∧ Below w.heap.size w wx ∧ w.heap.size < XB)
  case first =>
    refine wp_region_noPanic ?_
    refine wp_region_held_drew (S := fun w' => True) (by kernel_rfl) trivial (fun hHeld => ?_)
    refine wpAnyH_take (i := 0) (v := .string s) rfl (by kernel_rfl) (by kernel_rfl) (by kernel_rfl) (fun _ _ _ h => h) (Or.inl ⟨by rfl, fun w _ => by (go_simp) <;> first | (intro hh; exfalso; omega) | (exact i64_wraps _ (by omega) (by omega))⟩) hHeld ?_
    simp only [Act.put, List.setIfInBounds_toArray, List.set_cons_zero, List.set_cons_succ, List.getElem_toArray, List.getElem_cons_zero, List.getElem_cons_succ]
    refine wpAnyH_take (i := 1) (v := .int .u8 x0) rfl (by kernel_rfl) (by kernel_rfl) (by kernel_rfl) (fun _ _ _ h => h) (Or.inl ⟨by rfl, fun w _ => by (go_simp) <;> first | (intro hh; exfalso; omega) | (exact i64_wraps _ (by omega) (by omega))⟩) hHeld ?_
    simp only [Act.put, List.setIfInBounds_toArray, List.set_cons_zero, List.set_cons_succ, List.getElem_toArray, List.getElem_cons_zero, List.getElem_cons_succ]
    refine wpAnyH_take (i := 2) (v := .int .i64 x0) rfl (by kernel_rfl) (by kernel_rfl) (by kernel_rfl) (fun _ _ _ h => h) (Or.inl ⟨by rfl, fun w _ => by (go_simp) <;> first | (intro hh; exfalso; omega) | (exact i64_wraps _ (by omega) (by omega))⟩) hHeld ?_
    simp only [Act.put, List.setIfInBounds_toArray, List.set_cons_zero, List.set_cons_succ, List.getElem_toArray, List.getElem_cons_zero, List.getElem_cons_succ]
    refine wpAnyH_take (i := 3) (v := .string s) rfl (by kernel_rfl) (by kernel_rfl) (by kernel_rfl) (fun _ _ _ h => h) (Or.inl ⟨by rfl, fun w _ => by (go_simp) <;> first | (intro hh; exfalso; omega) | (exact i64_wraps _ (by omega) (by omega))⟩) hHeld ?_
    simp only [Act.put, List.setIfInBounds_toArray, List.set_cons_zero, List.set_cons_succ, List.getElem_toArray, List.getElem_cons_zero, List.getElem_cons_succ]
    refine wpAnyH_take (i := 4) (v := .int .u8 x1) rfl (by kernel_rfl) (by kernel_rfl) (by kernel_rfl) (fun _ _ _ h => h) (Or.inl ⟨by rfl, fun w _ => by (go_simp) <;> first | (intro hh; exfalso; omega) | (exact i64_wraps _ (by omega) (by omega))⟩) hHeld ?_
    simp only [Act.put, List.setIfInBounds_toArray, List.set_cons_zero, List.set_cons_succ, List.getElem_toArray, List.getElem_cons_zero, List.getElem_cons_succ]
    refine wpAnyH_take (i := 5) (v := .bool th) rfl (by kernel_rfl) (by kernel_rfl) (by kernel_rfl) (fun _ _ _ h => h) (Or.inl ⟨by rfl, fun w _ => by (go_simp) <;> first | (intro hh; exfalso; omega) | (exact i64_wraps _ (by omega) (by omega))⟩) hHeld ?_
    simp only [Act.put, List.setIfInBounds_toArray, List.set_cons_zero, List.set_cons_succ, List.getElem_toArray, List.getElem_cons_zero, List.getElem_cons_succ]
    refine wpAnyH_take (i := 6) (v := .string s) rfl (by kernel_rfl) (by kernel_rfl) (by kernel_rfl) (fun _ _ _ h => h) (Or.inl ⟨by rfl, fun w _ => by (go_simp) <;> first | (intro hh; exfalso; omega) | (exact i64_wraps _ (by omega) (by omega))⟩) hHeld ?_
    simp only [Act.put, List.setIfInBounds_toArray, List.set_cons_zero, List.set_cons_succ, List.getElem_toArray, List.getElem_cons_zero, List.getElem_cons_succ]
    refine wpAnyH_take (i := 7) (v := .int .u8 t) rfl (by kernel_rfl) (by kernel_rfl) (by kernel_rfl) (fun _ _ _ h => h) (Or.inl ⟨by rfl, fun w _ => by (go_simp) <;> first | (intro hh; exfalso; omega) | (exact i64_wraps _ (by omega) (by omega))⟩) hHeld ?_
    simp only [Act.put, List.setIfInBounds_toArray, List.set_cons_zero, List.set_cons_succ, List.getElem_toArray, List.getElem_cons_zero, List.getElem_cons_succ]
    refine wpAnyH_take (i := 8) (v := .int .i64 t) rfl (by kernel_rfl) (by kernel_rfl) (by kernel_rfl) (fun _ _ _ h => h) (Or.inl ⟨by rfl, fun w _ => by (go_simp) <;> first | (intro hh; exfalso; omega) | (exact i64_wraps _ (by omega) (by omega))⟩) hHeld ?_
    simp only [Act.put, List.setIfInBounds_toArray, List.set_cons_zero, List.set_cons_succ, List.getElem_toArray, List.getElem_cons_zero, List.getElem_cons_succ]
    refine wpAnyH_take (i := 9) (v := .string s) rfl (by kernel_rfl) (by kernel_rfl) (by kernel_rfl) (fun _ _ _ h => h) (Or.inl ⟨by rfl, fun w _ => by (go_simp) <;> first | (intro hh; exfalso; omega) | (exact i64_wraps _ (by omega) (by omega))⟩) hHeld ?_
    simp only [Act.put, List.setIfInBounds_toArray, List.set_cons_zero, List.set_cons_succ, List.getElem_toArray, List.getElem_cons_zero, List.getElem_cons_succ]
    refine wpAnyH_take (i := 11) (v := .string s) rfl (by kernel_rfl) (by kernel_rfl) (by kernel_rfl) (fun _ _ _ h => h) (Or.inl ⟨by rfl, fun w _ => by (go_simp) <;> first | (intro hh; exfalso; omega) | (exact i64_wraps _ (by omega) (by omega))⟩) hHeld ?_
    simp only [Act.put, List.setIfInBounds_toArray, List.set_cons_zero, List.set_cons_succ, List.getElem_toArray, List.getElem_cons_zero, List.getElem_cons_succ]
    refine wpAnyH_take (i := 13) (v := .string s) rfl (by kernel_rfl) (by kernel_rfl) (by kernel_rfl) (fun _ _ _ h => h) (Or.inl ⟨by rfl, fun w _ => by (go_simp) <;> first | (intro hh; exfalso; omega) | (exact i64_wraps _ (by omega) (by omega))⟩) hHeld ?_
    simp only [Act.put, List.setIfInBounds_toArray, List.set_cons_zero, List.set_cons_succ, List.getElem_toArray, List.getElem_cons_zero, List.getElem_cons_succ]
    refine wpAnyH_take (i := 14) (v := .int .u8 n) rfl (by kernel_rfl) (by kernel_rfl) (by kernel_rfl) (fun _ _ _ h => h) (Or.inl ⟨by rfl, fun w _ => by (go_simp) <;> first | (intro hh; exfalso; omega) | (exact i64_wraps _ (by omega) (by omega))⟩) hHeld ?_
    simp only [Act.put, List.setIfInBounds_toArray, List.set_cons_zero, List.set_cons_succ, List.getElem_toArray, List.getElem_cons_zero, List.getElem_cons_succ]
    refine wpAnyH_take (i := 15) (v := .int .i64 n) rfl (by kernel_rfl) (by kernel_rfl) (by kernel_rfl) (fun _ _ _ h => h) (Or.inl ⟨by rfl, fun w _ => by (go_simp) <;> first | (intro hh; exfalso; omega) | (exact i64_wraps _ (by omega) (by omega))⟩) hHeld ?_
    simp only [Act.put, List.setIfInBounds_toArray, List.set_cons_zero, List.set_cons_succ, List.getElem_toArray, List.getElem_cons_zero, List.getElem_cons_succ]
    refine wpAnyH_take (i := 16) (v := .string s) rfl (by kernel_rfl) (by kernel_rfl) (by kernel_rfl) (fun _ _ _ h => h) (Or.inl ⟨by rfl, fun w _ => by (go_simp) <;> first | (intro hh; exfalso; omega) | (exact i64_wraps _ (by omega) (by omega))⟩) hHeld ?_
    simp only [Act.put, List.setIfInBounds_toArray, List.set_cons_zero, List.set_cons_succ, List.getElem_toArray, List.getElem_cons_zero, List.getElem_cons_succ]
    refine wpAnyH_take (i := 17) (v := .int .u8 f) rfl (by kernel_rfl) (by kernel_rfl) (by kernel_rfl) (fun _ _ _ h => h) (Or.inl ⟨by rfl, fun w _ => by (go_simp) <;> first | (intro hh; exfalso; omega) | (exact i64_wraps _ (by omega) (by omega))⟩) hHeld ?_
    simp only [Act.put, List.setIfInBounds_toArray, List.set_cons_zero, List.set_cons_succ, List.getElem_toArray, List.getElem_cons_zero, List.getElem_cons_succ]
    refine wpAnyH_take (i := 18) (v := .int .i64 f) rfl (by kernel_rfl) (by kernel_rfl) (by kernel_rfl) (fun _ _ _ h => h) (Or.inl ⟨by rfl, fun w _ => by (go_simp) <;> first | (intro hh; exfalso; omega) | (exact i64_wraps _ (by omega) (by omega))⟩) hHeld ?_
    simp only [Act.put, List.setIfInBounds_toArray, List.set_cons_zero, List.set_cons_succ, List.getElem_toArray, List.getElem_cons_zero, List.getElem_cons_succ]
    refine wpAnyH_take (i := 19) (v := .int .i64 (f % 16)) rfl (by kernel_rfl) (by kernel_rfl) (by kernel_rfl) (fun _ _ _ h => h) (Or.inl ⟨by rfl, fun w _ => by (go_simp) <;> first | (intro hh; exfalso; omega) | (exact i64_wraps _ (by omega) (by omega))⟩) hHeld ?_
    simp only [Act.put, List.setIfInBounds_toArray, List.set_cons_zero, List.set_cons_succ, List.getElem_toArray, List.getElem_cons_zero, List.getElem_cons_succ]
    refine wpAnyH_take (i := 20) (v := .string s) rfl (by kernel_rfl) (by kernel_rfl) (by kernel_rfl) (fun _ _ _ h => h) (Or.inl ⟨by rfl, fun w _ => by (go_simp) <;> first | (intro hh; exfalso; omega) | (exact i64_wraps _ (by omega) (by omega))⟩) hHeld ?_
    simp only [Act.put, List.setIfInBounds_toArray, List.set_cons_zero, List.set_cons_succ, List.getElem_toArray, List.getElem_cons_zero, List.getElem_cons_succ]
    refine wpAnyH_take (i := 21) (v := .int .u8 f) rfl (by kernel_rfl) (by kernel_rfl) (by kernel_rfl) (fun _ _ _ h => h) (Or.inl ⟨by rfl, fun w _ => by (go_simp) <;> first | (intro hh; exfalso; omega) | (exact i64_wraps _ (by omega) (by omega))⟩) hHeld ?_
    simp only [Act.put, List.setIfInBounds_toArray, List.set_cons_zero, List.set_cons_succ, List.getElem_toArray, List.getElem_cons_zero, List.getElem_cons_succ]
    refine wpAnyH_take (i := 22) (v := .int .u8 (bits .and .u8 f 16)) rfl (by kernel_rfl) (by kernel_rfl) (by kernel_rfl) (fun _ _ _ h => h) (Or.inl ⟨by rfl, fun w _ => by (go_simp) <;> first | (intro hh; exfalso; omega) | (exact i64_wraps _ (by omega) (by omega))⟩) hHeld ?_
    simp only [Act.put, List.setIfInBounds_toArray, List.set_cons_zero, List.set_cons_succ, List.getElem_toArray, List.getElem_cons_zero, List.getElem_cons_succ]
    refine wpAnyH_take (i := 23) (v := .bool l16) rfl (by kernel_rfl) (by kernel_rfl) (by kernel_rfl) (fun _ _ _ h => h) (Or.inl ⟨by rfl, fun w _ => by (go_simp) <;> first | (intro hh; exfalso; omega) | (exact i64_wraps _ (by omega) (by omega))⟩) hHeld ?_
    simp only [Act.put, List.setIfInBounds_toArray, List.set_cons_zero, List.set_cons_succ, List.getElem_toArray, List.getElem_cons_zero, List.getElem_cons_succ]
    refine wpAnyH_take (i := 24) (v := .string s) rfl (by kernel_rfl) (by kernel_rfl) (by kernel_rfl) (fun _ _ _ h => h) (Or.inl ⟨by rfl, fun w _ => by (go_simp) <;> first | (intro hh; exfalso; omega) | (exact i64_wraps _ (by omega) (by omega))⟩) hHeld ?_
    simp only [Act.put, List.setIfInBounds_toArray, List.set_cons_zero, List.set_cons_succ, List.getElem_toArray, List.getElem_cons_zero, List.getElem_cons_succ]
    refine wpAnyH_take (i := 25) (v := .int .u8 f) rfl (by kernel_rfl) (by kernel_rfl) (by kernel_rfl) (fun _ _ _ h => h) (Or.inl ⟨by rfl, fun w _ => by (go_simp) <;> first | (intro hh; exfalso; omega) | (exact i64_wraps _ (by omega) (by omega))⟩) hHeld ?_
    simp only [Act.put, List.setIfInBounds_toArray, List.set_cons_zero, List.set_cons_succ, List.getElem_toArray, List.getElem_cons_zero, List.getElem_cons_succ]
    refine wpAnyH_take (i := 26) (v := .int .u8 (bits .and .u8 f 32)) rfl (by kernel_rfl) (by kernel_rfl) (by kernel_rfl) (fun _ _ _ h => h) (Or.inl ⟨by rfl, fun w _ => by (go_simp) <;> first | (intro hh; exfalso; omega) | (exact i64_wraps _ (by omega) (by omega))⟩) hHeld ?_
    simp only [Act.put, List.setIfInBounds_toArray, List.set_cons_zero, List.set_cons_succ, List.getElem_toArray, List.getElem_cons_zero, List.getElem_cons_succ]
    refine wpAnyH_take (i := 27) (v := .bool l32) rfl (by kernel_rfl) (by kernel_rfl) (by kernel_rfl) (fun _ _ _ h => h) (Or.inl ⟨by rfl, fun w _ => by (go_simp) <;> first | (intro hh; exfalso; omega) | (exact i64_wraps _ (by omega) (by omega))⟩) hHeld ?_
    simp only [Act.put, List.setIfInBounds_toArray, List.set_cons_zero, List.set_cons_succ, List.getElem_toArray, List.getElem_cons_zero, List.getElem_cons_succ]
    have OR := Lib.hid OR.out.drew
    have BR := Lib.hid BR.out.drew
    generalize World.drew _ = wA at OR BR ⊢
    have RLE := BR.out.size
    have RLT := OR.out.lt
    refine wpAnyH_ready (rs := [10, 29]) (by kernel_rfl) (by simp) ?_
    refine AllReadyH.cons (o := _) rfl (fun K' hK => ?_) (AllReadyH.cons (o := _) rfl (fun K' hK => ?_) AllReadyH.nil)
    · skip
      go_simp
      refine (HW12.out _).mono ?_
      rintro e w2 ⟨rfl, hq⟩
      go_wp2_with fail
      have OR := Lib.hid (show Obj1 w2 _ _ _ by obtain ⟨q, rfl⟩ := hq; exact OR.out.drewN q)
      have BR := Lib.hid (show Below w.heap.size w w2 by obtain ⟨q, rfl⟩ := hq; exact bdrew BR.out q)
      refine hK _ _ trivial (fun hS1 => ?_)
      clear hK K' hq RLE RLT
      have RLE := BR.out.size
      have RLT := OR.out.lt
      try simp only [Act.put, List.setIfInBounds_toArray, List.set_cons_zero, List.set_cons_succ, List.getElem_toArray, List.getElem_cons_zero, List.getElem_cons_succ]
      refine wpAnyH_ready (rs := [12, 29]) (by kernel_rfl) (by simp) ?_
      refine AllReadyH.cons (o := _) rfl (fun K' hK => ?_) (AllReadyH.cons (o := _) rfl (fun K' hK => ?_) AllReadyH.nil)
      · skip
        go_simp
        refine (HW14.out _).mono ?_
        rintro e w2 ⟨rfl, hq⟩
        go_wp2_with fail
        have OR := Lib.hid (show Obj1 w2 _ _ _ by obtain ⟨q, rfl⟩ := hq; exact OR.out.drewN q)
        have BR := Lib.hid (show Below w.heap.size w w2 by obtain ⟨q, rfl⟩ := hq; exact bdrew BR.out q)
        refine hK _ _ trivial (fun hS2 => ?_)
        clear hK K' hq RLE RLT
        have RLE := BR.out.size
        have RLT := OR.out.lt
        try simp only [Act.put, List.setIfInBounds_toArray, List.set_cons_zero, List.set_cons_succ, List.getElem_toArray, List.getElem_cons_zero, List.getElem_cons_succ]
        refine wpAnyH_take (i := 28) (v := .agg ([.int .i64 x0, .bool th, .int .i64 t, .int .i64 0, .int .i64 0, .int .i64 0, .int .i64 W, .int .i64 H, .int .i64 n, .int .i64 (f % 16), .bool l16, .bool l32]).toArray) rfl (by kernel_rfl) (by kernel_rfl) (by kernel_rfl) (fun _ _ _ h => h) (Or.inl ⟨by rfl, fun w _ => by (go_simp) <;> first | (intro hh; exfalso; omega) | (exact i64_wraps _ (by omega) (by omega))⟩) hS2 ?_
        simp only [Act.put, List.setIfInBounds_toArray, List.set_cons_zero, List.set_cons_succ, List.getElem_toArray, List.getElem_cons_zero, List.getElem_cons_succ]
        refine wpAnyH_ready (rs := [29]) (by kernel_rfl) (by simp) ?_
        refine AllReadyH.cons (o := _) rfl (fun K' hK => ?_) AllReadyH.nil
        · skip
          go_simp
          have OX := Lib.hid (obj1_new w2 #[.int .i64 0, .bool false, .int .i64 0, .int .i64 0, .int .i64 0, .int .i64 0, .int .i64 0, .int .i64 0, .int .i64 0, .int .i64 0, .bool false, .bool false] 44)
          have OR := Lib.hid (OR.out.alloc (.cells #[.int .i64 0, .bool false, .int .i64 0, .int .i64 0, .int .i64 0, .int .i64 0, .int .i64 0, .int .i64 0, .int .i64 0, .int .i64 0, .bool false, .bool false] 44))
          have BR := Lib.hid (BR.out.alloc RLE (.cells #[.int .i64 0, .bool false, .int .i64 0, .int .i64 0, .int .i64 0, .int .i64 0, .int .i64 0, .int .i64 0, .int .i64 0, .int .i64 0, .bool false, .bool false] 44))
          have sz : (w2.alloc (.cells #[.int .i64 0, .bool false, .int .i64 0, .int .i64 0, .int .i64 0, .int .i64 0, .int .i64 0, .int .i64 0, .int .i64 0, .int .i64 0, .bool false, .bool false] 44)).heap.size = w2.heap.size + 1 := by simp
          obtain ⟨XB, hXB⟩ : ∃ X, w2.heap.size = X := ⟨_, rfl⟩
          rw [hXB] at OX sz ⊢
          have RXB : w.heap.size < XB := by omega
          generalize World.alloc _ _ = wA' at OX OR BR sz ⊢
          refine hK _ _ trivial (fun hS3 => ?_)
          clear hK K' hXB RLE RLT
          have RLE := BR.out.size
          have RLT := OR.out.lt
          try simp only [Act.put, List.setIfInBounds_toArray, List.set_cons_zero, List.set_cons_succ, List.getElem_toArray, List.getElem_cons_zero, List.getElem_cons_succ]
          refine wpAnyH_ready (rs := [30]) (by kernel_rfl) (by simp) ?_
          refine AllReadyH.cons (o := _) rfl (fun K' hK => ?_) AllReadyH.nil
          rw [if_pos (by rfl)]
          refine wp_store_mid 44 _ _ rfl XB 0 (List.toArray [.int .i64 x0, .bool th, .int .i64 t, .int .i64 0, .int .i64 0, .int .i64 0, .int .i64 W, .int .i64 H, .int .i64 n, .int .i64 (f % 16), .bool l16, .bool l32]) rfl rfl (OX.out.there 0 12 (by simp)) (by kernel_rfl) (all_oneCell_toArray (List.all_eq_true.1 (by rfl))) ?_
          simp only [Act.put, List.setIfInBounds_toArray, List.set_cons_zero, List.set_cons_succ, List.getElem_toArray, List.getElem_cons_zero, List.getElem_cons_succ]
          have hst : Stored wA' XB 0 [.int .i64 x0, .bool th, .int .i64 t, .int .i64 0, .int .i64 0, .int .i64 0, .int .i64 W, .int .i64 H, .int .i64 n, .int .i64 (f % 16), .bool l16, .bool l32] (wA'.setCells XB 0 [.int .i64 x0, .bool th, .int .i64 t, .int .i64 0, .int .i64 0, .int .i64 0, .int .i64 W, .int .i64 H, .int .i64 n, .int .i64 (f % 16), .bool l16, .bool l32]) := rfl
          have OX := Lib.hid (hst.whole OX.out rfl)
          have OR := Lib.hid (hst.oth OR.out (by omega))
          have BR := Lib.hid (hst.below BR.out (by omega))
          generalize World.setCells _ _ _ _ = wB at OX OR BR ⊢
          clear hst
          refine hK _ _ trivial (fun hS4 => ?_)
          clear hK K'
          refine wpAnyH_done (by kernel_rfl) ?_ _
          refine NoPanic.normal ?_
          go_wp2_with fail
          go_meet
          exact ⟨XB, rfl, OX.out, OR.out, BR.out, by omega⟩
      · skip
        go_simp
        have OX := Lib.hid (obj1_new w2 #[.int .i64 0, .bool false, .int .i64 0, .int .i64 0, .int .i64 0, .int .i64 0, .int .i64 0, .int .i64 0, .int .i64 0, .int .i64 0, .bool false, .bool false] 44)
        have OR := Lib.hid (OR.out.alloc (.cells #[.int .i64 0, .bool false, .int .i64 0, .int .i64 0, .int .i64 0, .int .i64 0, .int .i64 0, .int .i64 0, .int .i64 0, .int .i64 0, .bool false, .bool false] 44))
        have BR := Lib.hid (BR.out.alloc RLE (.cells #[.int .i64 0, .bool false, .int .i64 0, .int .i64 0, .int .i64 0, .int .i64 0, .int .i64 0, .int .i64 0, .int .i64 0, .int .i64 0, .bool false, .bool false] 44))
        have sz : (w2.alloc (.cells #[.int .i64 0, .bool false, .int .i64 0, .int .i64 0, .int .i64 0, .int .i64 0, .int .i64 0, .int .i64 0, .int .i64 0, .int .i64 0, .bool false, .bool false] 44)).heap.size = w2.heap.size + 1 := by simp
        obtain ⟨XB, hXB⟩ : ∃ X, w2.heap.size = X := ⟨_, rfl⟩
        rw [hXB] at OX sz ⊢
        have RXB : w.heap.size < XB := by omega
        generalize World.alloc _ _ = wA' at OX OR BR sz ⊢
        refine hK _ _ trivial (fun hS5 => ?_)
        clear hK K' hXB RLE RLT
        have RLE := BR.out.size
        have RLT := OR.out.lt
        try simp only [Act.put, List.setIfInBounds_toArray, List.set_cons_zero, List.set_cons_succ, List.getElem_toArray, List.getElem_cons_zero, List.getElem_cons_succ]
        refine wpAnyH_ready (rs := [12]) (by kernel_rfl) (by simp) ?_
        refine AllReadyH.cons (o := _) rfl (fun K' hK => ?_) AllReadyH.nil
        · skip
          go_simp
          refine (HW14.out _).mono ?_
          rintro e w2 ⟨rfl, hq⟩
          go_wp2_with fail
          have OR := Lib.hid (show Obj1 w2 _ _ _ by obtain ⟨q, rfl⟩ := hq; exact OR.out.drewN q)
          have OX := Lib.hid (show Obj1 w2 _ _ _ by obtain ⟨q, rfl⟩ := hq; exact OX.out.drewN q)
          have BR := Lib.hid (show Below w.heap.size w w2 by obtain ⟨q, rfl⟩ := hq; exact bdrew BR.out q)
          refine hK _ _ trivial (fun hS6 => ?_)
          clear hK K' hq RLE RLT
          have RLE := BR.out.size
          have RLT := OR.out.lt
          try simp only [Act.put, List.setIfInBounds_toArray, List.set_cons_zero, List.set_cons_succ, List.getElem_toArray, List.getElem_cons_zero, List.getElem_cons_succ]
          refine wpAnyH_take (i := 28) (v := .agg ([.int .i64 x0, .bool th, .int .i64 t, .int .i64 0, .int .i64 0, .int .i64 0, .int .i64 W, .int .i64 H, .int .i64 n, .int .i64 (f % 16), .bool l16, .bool l32]).toArray) rfl (by kernel_rfl) (by kernel_rfl) (by kernel_rfl) (fun _ _ _ h => h) (Or.inl ⟨by rfl, fun w _ => by (go_simp) <;> first | (intro hh; exfalso; omega) | (exact i64_wraps _ (by omega) (by omega))⟩) hS6 ?_
          simp only [Act.put, List.setIfInBounds_toArray, List.set_cons_zero, List.set_cons_succ, List.getElem_toArray, List.getElem_cons_zero, List.getElem_cons_succ]
          refine wpAnyH_ready (rs := [30]) (by kernel_rfl) (by simp) ?_
          refine AllReadyH.cons (o := _) rfl (fun K' hK => ?_) AllReadyH.nil
          rw [if_pos (by rfl)]
          refine wp_store_mid 44 _ _ rfl XB 0 (List.toArray [.int .i64 x0, .bool th, .int .i64 t, .int .i64 0, .int .i64 0, .int .i64 0, .int .i64 W, .int .i64 H, .int .i64 n, .int .i64 (f % 16), .bool l16, .bool l32]) rfl rfl (OX.out.there 0 12 (by simp)) (by kernel_rfl) (all_oneCell_toArray (List.all_eq_true.1 (by rfl))) ?_
          simp only [Act.put, List.setIfInBounds_toArray, List.set_cons_zero, List.set_cons_succ, List.getElem_toArray, List.getElem_cons_zero, List.getElem_cons_succ]
          have hst : Stored w2 XB 0 [.int .i64 x0, .bool th, .int .i64 t, .int .i64 0, .int .i64 0, .int .i64 0, .int .i64 W, .int .i64 H, .int .i64 n, .int .i64 (f % 16), .bool l16, .bool l32] (w2.setCells XB 0 [.int .i64 x0, .bool th, .int .i64 t, .int .i64 0, .int .i64 0, .int .i64 0, .int .i64 W, .int .i64 H, .int .i64 n, .int .i64 (f % 16), .bool l16, .bool l32]) := rfl
          have OX := Lib.hid (hst.whole OX.out rfl)
          have OR := Lib.hid (hst.oth OR.out (by omega))
          have BR := Lib.hid (hst.below BR.out (by omega))
          generalize World.setCells _ _ _ _ = wB at OX OR BR ⊢
          clear hst
          refine hK _ _ trivial (fun hS7 => ?_)
          clear hK K'
          refine wpAnyH_done (by kernel_rfl) ?_ _
          refine NoPanic.normal ?_
          go_wp2_with fail
          go_meet
          exact ⟨XB, rfl, OX.out, OR.out, BR.out, by omega⟩
    · skip
      go_simp
      have OX := Lib.hid (obj1_new wA #[.int .i64 0, .bool false, .int .i64 0, .int .i64 0, .int .i64 0, .int .i64 0, .int .i64 0, .int .i64 0, .int .i64 0, .int .i64 0, .bool false, .bool false] 44)
      have OR := Lib.hid (OR.out.alloc (.cells #[.int .i64 0, .bool false, .int .i64 0, .int .i64 0, .int .i64 0, .int .i64 0, .int .i64 0, .int .i64 0, .int .i64 0, .int .i64 0, .bool false, .bool false] 44))
      have BR := Lib.hid (BR.out.alloc RLE (.cells #[.int .i64 0, .bool false, .int .i64 0, .int .i64 0, .int .i64 0, .int .i64 0, .int .i64 0, .int .i64 0, .int .i64 0, .int .i64 0, .bool false, .bool false] 44))
      have sz : (wA.alloc (.cells #[.int .i64 0, .bool false, .int .i64 0, .int .i64 0, .int .i64 0, .int .i64 0, .int .i64 0, .int .i64 0, .int .i64 0, .int .i64 0, .bool false, .bool false] 44)).heap.size = wA.heap.size + 1 := by simp
      obtain ⟨XB, hXB⟩ : ∃ X, wA.heap.size = X := ⟨_, rfl⟩
      rw [hXB] at OX sz ⊢
      have RXB : w.heap.size < XB := by omega
      generalize World.alloc _ _ = wA' at OX OR BR sz ⊢
      refine hK _ _ trivial (fun hS8 => ?_)
      clear hK K' hXB RLE RLT
      have RLE := BR.out.size
      have RLT := OR.out.lt
      try simp only [Act.put, List.setIfInBounds_toArray, List.set_cons_zero, List.set_cons_succ, List.getElem_toArray, List.getElem_cons_zero, List.getElem_cons_succ]
      refine wpAnyH_ready (rs := [10]) (by kernel_rfl) (by simp) ?_
      refine AllReadyH.cons (o := _) rfl (fun K' hK => ?_) AllReadyH.nil
      · skip
        go_simp
        refine (HW12.out _).mono ?_
        rintro e w2 ⟨rfl, hq⟩
        go_wp2_with fail
        have OR := Lib.hid (show Obj1 w2 _ _ _ by obtain ⟨q, rfl⟩ := hq; exact OR.out.drewN q)
        have OX := Lib.hid (show Obj1 w2 _ _ _ by obtain ⟨q, rfl⟩ := hq; exact OX.out.drewN q)
        have BR := Lib.hid (show Below w.heap.size w w2 by obtain ⟨q, rfl⟩ := hq; exact bdrew BR.out q)
        refine hK _ _ trivial (fun hS9 => ?_)
        clear hK K' hq RLE RLT
        have RLE := BR.out.size
        have RLT := OR.out.lt
        try simp only [Act.put, List.setIfInBounds_toArray, List.set_cons_zero, List.set_cons_succ, List.getElem_toArray, List.getElem_cons_zero, List.getElem_cons_succ]
        refine wpAnyH_ready (rs := [12]) (by kernel_rfl) (by simp) ?_
        refine AllReadyH.cons (o := _) rfl (fun K' hK => ?_) AllReadyH.nil
        · skip
          go_simp
          refine (HW14.out _).mono ?_
          rintro e w2 ⟨rfl, hq⟩
          go_wp2_with fail
          have OR := Lib.hid (show Obj1 w2 _ _ _ by obtain ⟨q, rfl⟩ := hq; exact OR.out.drewN q)
          have OX := Lib.hid (show Obj1 w2 _ _ _ by obtain ⟨q, rfl⟩ := hq; exact OX.out.drewN q)
          have BR := Lib.hid (show Below w.heap.size w w2 by obtain ⟨q, rfl⟩ := hq; exact bdrew BR.out q)
          refine hK _ _ trivial (fun hS10 => ?_)
          clear hK K' hq RLE RLT
          have RLE := BR.out.size
          have RLT := OR.out.lt
          try simp only [Act.put, List.setIfInBounds_toArray, List.set_cons_zero, List.set_cons_succ, List.getElem_toArray, List.getElem_cons_zero, List.getElem_cons_succ]
          refine wpAnyH_take (i := 28) (v := .agg ([.int .i64 x0, .bool th, .int .i64 t, .int .i64 0, .int .i64 0, .int .i64 0, .int .i64 W, .int .i64 H, .int .i64 n, .int .i64 (f % 16), .bool l16, .bool l32]).toArray) rfl (by kernel_rfl) (by kernel_rfl) (by kernel_rfl) (fun _ _ _ h => h) (Or.inl ⟨by rfl, fun w _ => by (go_simp) <;> first | (intro hh; exfalso; omega) | (exact i64_wraps _ (by omega) (by omega))⟩) hS10 ?_
          simp only [Act.put, List.setIfInBounds_toArray, List.set_cons_zero, List.set_cons_succ, List.getElem_toArray, List.getElem_cons_zero, List.getElem_cons_succ]
          refine wpAnyH_ready (rs := [30]) (by kernel_rfl) (by simp) ?_
          refine AllReadyH.cons (o := _) rfl (fun K' hK => ?_) AllReadyH.nil
          rw [if_pos (by rfl)]
          refine wp_store_mid 44 _ _ rfl XB 0 (List.toArray [.int .i64 x0, .bool th, .int .i64 t, .int .i64 0, .int .i64 0, .int .i64 0, .int .i64 W, .int .i64 H, .int .i64 n, .int .i64 (f % 16), .bool l16, .bool l32]) rfl rfl (OX.out.there 0 12 (by simp)) (by kernel_rfl) (all_oneCell_toArray (List.all_eq_true.1 (by rfl))) ?_
          simp only [Act.put, List.setIfInBounds_toArray, List.set_cons_zero, List.set_cons_succ, List.getElem_toArray, List.getElem_cons_zero, List.getElem_cons_succ]
          have hst : Stored w2 XB 0 [.int .i64 x0, .bool th, .int .i64 t, .int .i64 0, .int .i64 0, .int .i64 0, .int .i64 W, .int .i64 H, .int .i64 n, .int .i64 (f % 16), .bool l16, .bool l32] (w2.setCells XB 0 [.int .i64 x0, .bool th, .int .i64 t, .int .i64 0, .int .i64 0, .int .i64 0, .int .i64 W, .int .i64 H, .int .i64 n, .int .i64 (f % 16), .bool l16, .bool l32]) := rfl
          have OX := Lib.hid (hst.whole OX.out rfl)
          have OR := Lib.hid (hst.oth OR.out (by omega))
          have BR := Lib.hid (hst.below BR.out (by omega))
          generalize World.setCells _ _ _ _ = wB at OX OR BR ⊢
          clear hst
          refine hK _ _ trivial (fun hS11 => ?_)
          clear hK K'
          refine wpAnyH_done (by kernel_rfl) ?_ _
          refine NoPanic.normal ?_
          go_wp2_with fail
          go_meet
          exact ⟨XB, rfl, OX.out, OR.out, BR.out, by omega⟩
  case rest =>
  obtain ⟨XB, rfl, OX, OR2, BR2, RXB⟩ := hcut
  have OX := Lib.hid OX
  have OR := Lib.hid OR2
  have BR := Lib.hid BR2
  clear OR2 BR2
  have RNE : w.heap.size ≠ XB := by omega
  have RXE : w.heap.size ≤ XB := by omega
  have lX := OX.out.lt
  have c1 : wc.cell? ⟨XB, 1, none⟩ = some (.bool th) := OX.out.cell 1
  cases th
  · go_upto_region 4 with (fail)
    go_wp2_with (first
      | (refine load_o rfl 44 12 _ rfl XB [.int .i64 x0, .bool false, .int .i64 t, .int .i64 0, .int .i64 0, .int .i64 0, .int .i64 W, .int .i64 H, .int .i64 n, .int .i64 (f % 16), .bool l16, .bool l32] rfl rfl OX.out Try.underlying44 rfl (by kernel_rfl) ?_)
      | (refine store_o rfl 44 12 _ _ rfl w.heap.size [.int .i64 x0, .bool false, .int .i64 t, .int .i64 0, .int .i64 0, .int .i64 0, .int .i64 W, .int .i64 H, .int .i64 n, .int .i64 (f % 16), .bool l16, .bool l32] rfl rfl rfl rfl (by kernel_rfl) OR.out rfl ?_; intro w3 hst hO; have HO := Lib.hid hO; have B := Lib.hid (hst.below BR.out (Nat.le_refl _)); clear hst hO))
    refine bodyPost_ret (v := .agg [.int .i64 x0, .bool false, .int .i64 t, .int .i64 0, .int .i64 0, .int .i64 0, .int .i64 W, .int .i64 H, .int .i64 n, .int .i64 (f % 16), .bool l16, .bool l32].toArray) ?_ rfl ⟨by rw [E.out]; rfl, B.out⟩
    exact results_c Try.results73 _ _ _ [.int .i64 x0, .bool false, .int .i64 t, .int .i64 0, .int .i64 0, .int .i64 0, .int .i64 W, .int .i64 H, .int .i64 n, .int .i64 (f % 16), .bool l16, .bool l32] _ rfl HO.out.range0 Try.underlying44 rfl (by kernel_rfl)
  · go_upto_region 3 with (fail)
    clear c1
    refine wp_region_noPanic ?_
    refine wp_region_held_drew (S := fun w' => True) (by kernel_rfl) trivial (fun hHeld => ?_)
    refine wpAnyH_take (i := 0) (v := .string s) rfl (by kernel_rfl) (by kernel_rfl) (by kernel_rfl) (fun _ _ _ h => h) (Or.inl ⟨by rfl, fun w _ => by (go_simp) <;> first | (intro hh; exfalso; omega) | (exact i64_wraps _ (by omega) (by omega))⟩) hHeld ?_
    simp only [Act.put, List.setIfInBounds_toArray, List.set_cons_zero, List.set_cons_succ, List.getElem_toArray, List.getElem_cons_zero, List.getElem_cons_succ]
    refine wpAnyH_take (i := 2) (v := .string s) rfl (by kernel_rfl) (by kernel_rfl) (by kernel_rfl) (fun _ _ _ h => h) (Or.inl ⟨by rfl, fun w _ => by (go_simp) <;> first | (intro hh; exfalso; omega) | (exact i64_wraps _ (by omega) (by omega))⟩) hHeld ?_
    simp only [Act.put, List.setIfInBounds_toArray, List.set_cons_zero, List.set_cons_succ, List.getElem_toArray, List.getElem_cons_zero, List.getElem_cons_succ]
    refine wpAnyH_take (i := 4) (v := .string s) rfl (by kernel_rfl) (by kernel_rfl) (by kernel_rfl) (fun _ _ _ h => h) (Or.inl ⟨by rfl, fun w _ => by (go_simp) <;> first | (intro hh; exfalso; omega) | (exact i64_wraps _ (by omega) (by omega))⟩) hHeld ?_
    simp only [Act.put, List.setIfInBounds_toArray, List.set_cons_zero, List.set_cons_succ, List.getElem_toArray, List.getElem_cons_zero, List.getElem_cons_succ]
    refine wpAnyH_take (i := 5) (v := .int .u8 x7) rfl (by kernel_rfl) (by kernel_rfl) (by kernel_rfl) (fun _ _ _ h => h) (Or.inl ⟨by rfl, fun w _ => by (go_simp) <;> first | (intro hh; exfalso; omega) | (exact i64_wraps _ (by omega) (by omega))⟩) hHeld ?_
    simp only [Act.put, List.setIfInBounds_toArray, List.set_cons_zero, List.set_cons_succ, List.getElem_toArray, List.getElem_cons_zero, List.getElem_cons_succ]
    refine wpAnyH_take (i := 6) (v := .int .i64 x7) rfl (by kernel_rfl) (by kernel_rfl) (by kernel_rfl) (fun _ _ _ h => h) (Or.inl ⟨by rfl, fun w _ => by (go_simp) <;> first | (intro hh; exfalso; omega) | (exact i64_wraps _ (by omega) (by omega))⟩) hHeld ?_
    simp only [Act.put, List.setIfInBounds_toArray, List.set_cons_zero, List.set_cons_succ, List.getElem_toArray, List.getElem_cons_zero, List.getElem_cons_succ]
    refine wpAnyH_ready (rs := [1]) (by kernel_rfl) (by simp) ?_
    refine AllReadyH.cons (o := _) rfl (fun K' hK => ?_) AllReadyH.nil
    go_simp
    refine (HW3.out _).mono ?_
    rintro e wq1 ⟨rfl, hq1⟩
    go_wp2_with fail
    have OX := Lib.hid (show Obj1 wq1 _ _ _ by obtain ⟨q, rfl⟩ := hq1; exact OX.out.drew.drewN q)
    have OR := Lib.hid (show Obj1 wq1 _ _ _ by obtain ⟨q, rfl⟩ := hq1; exact OR.out.drew.drewN q)
    have BR := Lib.hid (show Below w.heap.size w wq1 by obtain ⟨q, rfl⟩ := hq1; exact bdrew BR.out.drew q)
    refine hK _ _ trivial (fun hHeld1 => ?_)
    clear hK K'
    try simp only [Act.put, List.setIfInBounds_toArray, List.set_cons_zero, List.set_cons_succ, List.getElem_toArray, List.getElem_cons_zero, List.getElem_cons_succ]
    refine wpAnyH_take (i := 7) (v := .pointer (some ⟨XB, 3, none⟩)) rfl (by kernel_rfl) (by kernel_rfl) (by kernel_rfl) (fun _ _ _ h => h) (Or.inl ⟨by rfl, fun w _ => by (go_simp) <;> first | (intro hh; exfalso; omega) | (exact i64_wraps _ (by omega) (by omega))⟩) hHeld1 ?_
    simp only [Act.put, List.setIfInBounds_toArray, List.set_cons_zero, List.set_cons_succ, List.getElem_toArray, List.getElem_cons_zero, List.getElem_cons_succ]
    refine wpAnyH_ready (rs := [3]) (by kernel_rfl) (by simp) ?_
    refine AllReadyH.cons (o := _) rfl (fun K' hK => ?_) AllReadyH.nil
    go_simp
    refine (HW5.out _).mono ?_
    rintro e wq2 ⟨rfl, hq2⟩
    go_wp2_with fail
    have OX := Lib.hid (show Obj1 wq2 _ _ _ by obtain ⟨q, rfl⟩ := hq2; exact OX.out.drewN q)
    have OR := Lib.hid (show Obj1 wq2 _ _ _ by obtain ⟨q, rfl⟩ := hq2; exact OR.out.drewN q)
    have BR := Lib.hid (show Below w.heap.size w wq2 by obtain ⟨q, rfl⟩ := hq2; exact bdrew BR.out q)
    have c3 : wq2.cell? ⟨XB, 3, none⟩ = some (.int .i64 0) := OX.out.cell 3
    have c4 : wq2.cell? ⟨XB, 4, none⟩ = some (.int .i64 0) := OX.out.cell 4
    have c5 : wq2.cell? ⟨XB, 5, none⟩ = some (.int .i64 0) := OX.out.cell 5
    have k3 : wq2.frozen? ⟨XB, 3, none⟩ = false := OX.out.frozen 3
    have k4 : wq2.frozen? ⟨XB, 4, none⟩ = false := OX.out.frozen 4
    have k5 : wq2.frozen? ⟨XB, 5, none⟩ = false := OX.out.frozen 5
    refine hK _ _ trivial (fun hHeld2 => ?_)
    clear hK K'
    try simp only [Act.put, List.setIfInBounds_toArray, List.set_cons_zero, List.set_cons_succ, List.getElem_toArray, List.getElem_cons_zero, List.getElem_cons_succ]
    refine wpAnyH_ready (rs := [8]) (by kernel_rfl) (by simp) ?_
    refine AllReadyH.cons (o := _) rfl (fun K' hK => ?_) AllReadyH.nil
    go_simp
    refine hK _ _ trivial (fun hHeld3 => ?_)
    clear hK K'
    try simp only [Act.put, List.setIfInBounds_toArray, List.set_cons_zero, List.set_cons_succ, List.getElem_toArray, List.getElem_cons_zero, List.getElem_cons_succ]
    refine wpAnyH_take (i := 9) (v := .pointer (some ⟨XB, 4, none⟩)) rfl (by kernel_rfl) (by kernel_rfl) (by kernel_rfl) (fun _ _ _ h => h) (Or.inl ⟨by rfl, fun w _ => by (go_simp) <;> first | (intro hh; exfalso; omega) | (exact i64_wraps _ (by omega) (by omega))⟩) hHeld3 ?_
    simp only [Act.put, List.setIfInBounds_toArray, List.set_cons_zero, List.set_cons_succ, List.getElem_toArray, List.getElem_cons_zero, List.getElem_cons_succ]
    refine wpAnyH_ready (rs := [10]) (by kernel_rfl) (by simp) ?_
    refine AllReadyH.cons (o := _) rfl (fun K' hK => ?_) AllReadyH.nil
    go_simp
    refine hK _ _ trivial (fun hHeld4 => ?_)
    clear hK K'
    try simp only [Act.put, List.setIfInBounds_toArray, List.set_cons_zero, List.set_cons_succ, List.getElem_toArray, List.getElem_cons_zero, List.getElem_cons_succ]
    refine wpAnyH_take (i := 11) (v := .pointer (some ⟨XB, 5, none⟩)) rfl (by kernel_rfl) (by kernel_rfl) (by kernel_rfl) (fun _ _ _ h => h) (Or.inl ⟨by rfl, fun w _ => by (go_simp) <;> first | (intro hh; exfalso; omega) | (exact i64_wraps _ (by omega) (by omega))⟩) hHeld4 ?_
    simp only [Act.put, List.setIfInBounds_toArray, List.set_cons_zero, List.set_cons_succ, List.getElem_toArray, List.getElem_cons_zero, List.getElem_cons_succ]
    refine wpAnyH_ready (rs := [12]) (by kernel_rfl) (by simp) ?_
    refine AllReadyH.cons (o := _) rfl (fun K' hK => ?_) AllReadyH.nil
    go_simp
    refine hK _ _ trivial (fun hHeld5 => ?_)
    clear hK K'
    try simp only [Act.put, List.setIfInBounds_toArray, List.set_cons_zero, List.set_cons_succ, List.getElem_toArray, List.getElem_cons_zero, List.getElem_cons_succ]
    refine wpAnyH_done (by kernel_rfl) ?_ _
    refine NoPanic.normal ?_
    have OX := Lib.hid (show Obj1 (((wq2.setCell ⟨XB, 3, none⟩ (.int .i64 FI)).setCell ⟨XB, 4, none⟩ (.int .i64 C)).setCell ⟨XB, 5, none⟩ (.int .i64 x7)) XB #[.int .i64 x0, .bool true, .int .i64 t, .int .i64 FI, .int .i64 C, .int .i64 x7, .int .i64 W, .int .i64 H, .int .i64 n, .int .i64 (f % 16), .bool l16, .bool l32] 44 from ((OX.out.set 3 _).set 4 _).set 5 _)
    have OR := Lib.hid (show Obj1 (((wq2.setCell ⟨XB, 3, none⟩ (.int .i64 FI)).setCell ⟨XB, 4, none⟩ (.int .i64 C)).setCell ⟨XB, 5, none⟩ (.int .i64 x7)) w.heap.size _ 44 from (((OR.out.set_other _ _ RNE).set_other _ _ RNE).set_other _ _ RNE))
    have BR := Lib.hid (show Below w.heap.size w (((wq2.setCell ⟨XB, 3, none⟩ (.int .i64 FI)).setCell ⟨XB, 4, none⟩ (.int .i64 C)).setCell ⟨XB, 5, none⟩ (.int .i64 x7)) from ((BR.out.setCell RXE _).setCell RXE _).setCell RXE _)
    generalize World.setCell _ _ _ = w40 at OX OR BR ⊢
    clear c3 c4 c5 k3 k4 k5
    go_wp2_with (first
      | (refine load_o rfl 44 12 _ rfl XB [.int .i64 x0, .bool true, .int .i64 t, .int .i64 FI, .int .i64 C, .int .i64 x7, .int .i64 W, .int .i64 H, .int .i64 n, .int .i64 (f % 16), .bool l16, .bool l32] rfl rfl OX.out Try.underlying44 rfl (by kernel_rfl) ?_)
      | (refine store_o rfl 44 12 _ _ rfl w.heap.size [.int .i64 x0, .bool true, .int .i64 t, .int .i64 FI, .int .i64 C, .int .i64 x7, .int .i64 W, .int .i64 H, .int .i64 n, .int .i64 (f % 16), .bool l16, .bool l32] rfl rfl rfl rfl (by kernel_rfl) OR.out rfl ?_; intro w3 hst hO; have HO := Lib.hid hO; have B := Lib.hid (hst.below BR.out (Nat.le_refl _)); clear hst hO))
    refine bodyPost_ret (v := .agg [.int .i64 x0, .bool true, .int .i64 t, .int .i64 FI, .int .i64 C, .int .i64 x7, .int .i64 W, .int .i64 H, .int .i64 n, .int .i64 (f % 16), .bool l16, .bool l32].toArray) ?_ rfl ⟨by rw [E.out]; rfl, B.out⟩
    exact results_c Try.results73 _ _ _ [.int .i64 x0, .bool true, .int .i64 t, .int .i64 FI, .int .i64 C, .int .i64 x7, .int .i64 W, .int .i64 H, .int .i64 n, .int .i64 (f % 16), .bool l16, .bool l32] _ rfl HO.out.range0 Try.underlying44 rfl (by kernel_rfl)
end Go.Proofs.Ytomikbecbbjhoaa

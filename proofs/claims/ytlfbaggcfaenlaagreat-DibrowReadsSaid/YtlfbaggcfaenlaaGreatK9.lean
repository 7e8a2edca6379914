/- The walks of the small functions of layers 8 and 9 (scale, mask), and of their references. -/
import Derived.Test.YtlfbaggcfaenlaaGreatProg
import Derived.Test.YtlfbaggcfaenlaaGreatK0
import Derived.Deep.RegionHeld3
namespace Go.Proofs.YtlfbaggcfaenlaaGreat
open Go.RowKit

def rightB (s b : Int) : Bool := decide (0 ≤ s ∧ 1 ≤ b ∧ s < 32 ∧ b ≤ 32 - s)
theorem wrap_ones (n : Nat) (h1 : n ≤ 32) : wrap64 (wrap64 (2 ^ n) - 1) = 2 ^ n - 1 := by
  have := pow_pos' n; have h := pow_le' h1
  rw [IntWalk.wrap64_in (2 ^ n) ⟨by omega, by omega⟩, IntWalk.wrap64_in (2 ^ n - 1) ⟨by omega, by omega⟩]
theorem ones_any (n : Int) (w : World) (h0 : 0 ≤ n) (h1 : n ≤ 32) :
    Calls Tryz.prog 246 #[.int .i64 n] w fun e w' => e = .returned (.int .i64 (2 ^ n.toNat - 1)) ∧ w = w' := by
  have E := Hi (wrap_ones n.toNat (by omega))
  go_enter Tryz.func246, Tryz.ntmps246
  go_wp2
  go_ret
  exact ⟨ret_int E.out, rfl⟩
theorem right_any (s b : Int) (w : World) :
    Calls Tryz.prog 256 #[.agg #[.int .i64 s, .int .i64 b]] w fun e w' => e = .returned (.bool (rightB s b)) ∧ Below w.heap.size w w' := by
  go_enter Tryz.func256, Tryz.ntmps256
  go_wp2
  all_goals
    go_ret
    refine ⟨?_, by go_grown⟩
    simp [rightB, *]
    try omega
theorem of_yes (s b word : Int) (w : World) (hr : rightB s b = true) :
    Calls Tryz.prog 263 #[.agg #[.int .i64 s, .int .i64 b], .int .i64 word] w fun e w' => e = .returned (.int .i64 (word / 2 ^ s.toNat % 2 ^ b.toNat)) ∧ Below w.heap.size w w' := by
  have hb1 : 0 ≤ s ∧ 1 ≤ b ∧ s < 32 ∧ b ≤ 32 - s := by simpa [rightB] using hr
  obtain ⟨b1, b2, b3, b4⟩ := hb1
  have E := Hi (i64_and_mask (word / 2 ^ s.toNat) b.toNat (by omega))
  go_enter Tryz.func263, Tryz.ntmps263
  go_wp2_with (go_at_call 256; (with_reducible refine (right_any _ _ _).mono ?_); rintro e w1 ⟨rfl, hb⟩; obtain ⟨hc, hf⟩ := bcell hb)
  go_quiet ((go_at_call 246; exact Calls.quiet_of_same ((ones_any _ _ (by omega) (by omega)).mono (fun e w' h => ⟨h.1, h.2.symm⟩))))
  go_wp2
  go_ret
  exact ⟨ret_int E.out, bdrew (bthen hb (by go_grown) (by simp)) _⟩
def mxI (v m : Int) : Int := (2 * v * 255 + m) / (2 * m)
theorem mxI_bd (v m : Int) (h0 : 0 ≤ v) (h1 : v ≤ m) (h2 : 1 ≤ m) : 0 ≤ mxI v m ∧ mxI v m ≤ 255 := by
  unfold mxI
  refine ⟨Int.ediv_nonneg (by omega) (by omega), ?_⟩
  have : (2 * v * 255 + m) / (2 * m) < 256 := Int.ediv_lt_of_lt_mul (by omega) (by omega)
  omega
theorem max_yes (v m : Int) (w : World) (h0 : 0 ≤ v) (h1 : v ≤ m) (h2 : 1 ≤ m) (h3 : m ≤ 4294967295) :
    Calls Tryz.prog 260 #[.int .i64 v, .int .i64 m] w fun e w' => e = .returned (.tuple #[.int .u8 (mxI v m), .bool true]) ∧ w = w' := by
  have hb := mxI_bd v m h0 h1 h2
  have E := Hi (show (2 * v * 255 + m) / (2 * m) % 256 = mxI v m by unfold mxI at *; omega)
  clear hb
  go_enter Tryz.func260, Tryz.ntmps260
  go_wp2
  go_ret2
  exact ⟨by rw [← E.out]; rfl, rfl⟩
theorem bits_yes (v n : Int) (w : World) (h0 : 0 ≤ v) (h1 : 1 ≤ n) (h2 : n ≤ 32) (h3 : v ≤ 2 ^ n.toNat - 1) :
    Calls Tryz.prog 247 #[.int .i64 v, .int .i64 n] w fun e w' => e = .returned (.tuple #[.int .u8 (mxI v (2 ^ n.toNat - 1)), .bool true]) ∧ w = w' := by
  have E := Hi (wrap_ones n.toNat (by omega))
  have H3 := Hi h3
  clear h3
  have P1 := Hi (pow_le' (show 1 ≤ n.toNat by omega))
  have P2 := Hi (pow_le' (show n.toNat ≤ 32 by omega))
  go_enter Tryz.func247, Tryz.ntmps247
  go_wp2_with (go_at_call 260; rw [E.out]; refine (max_yes _ _ _ h0 H3.out (by have := P1.out; omega) (by have := P2.out; omega)).mono ?_; rintro e w' ⟨rfl, rfl⟩)
  go_ret2
  exact ⟨rfl, rfl⟩
def okM (s b : Int) : Prop := (s = 0 ∧ b = 0) ∨ rightB s b = true
def chI (s b word none : Int) : Int := if b = 0 then none else mxI (word / 2 ^ s.toNat % 2 ^ b.toNat) (2 ^ b.toNat - 1)
theorem chan_any (s b word none : Int) (w : World) (hk : okM s b) :
    Calls Tryz.prog 255 #[.agg #[.int .i64 s, .int .i64 b], .int .i64 word, .int .u8 none] w fun e w' => e = .returned (.int .u8 (chI s b word none)) ∧ Below w.heap.size w w' := by
  rcases hk with ⟨rfl, rfl⟩ | hr
  · go_enter Tryz.func255, Tryz.ntmps255
    go_wp2
    go_ret
    exact ⟨rfl, by go_grown⟩
  · have hb1 : 0 ≤ s ∧ 1 ≤ b ∧ s < 32 ∧ b ≤ 32 - s := by simpa [rightB] using hr
    obtain ⟨b1, b2, b3, b4⟩ := hb1
    have hb0 : (b == 0) = false := by simp; omega
    have E := Hi (show chI s b word none = _ from if_neg (by omega))
    have hp := pow_pos' b.toNat
    have V0 := Hi (Int.emod_nonneg (word / 2 ^ s.toNat) (Int.ne_of_gt hp))
    have V1 := Hi (show word / 2 ^ s.toNat % 2 ^ b.toNat ≤ 2 ^ b.toNat - 1 by have := Int.emod_lt_of_pos (word / 2 ^ s.toNat) hp; omega)
    clear hp
    go_enter Tryz.func255, Tryz.ntmps255
    go_wp2
    go_region_held3 (fun w' => w'.cell? ⟨w.heap.size, 0, Option.none⟩ = some (.int .i64 s) ∧ w'.cell? ⟨w.heap.size, 1, Option.none⟩ = some (.int .i64 b)) (simp [go_sem, *])
      (first
        | (go_at_call 263; (with_reducible refine (of_yes _ _ _ _ hr).mono ?_); rintro e w1 ⟨rfl, hb⟩; obtain ⟨hc, hf⟩ := bcell hb)
        | (go_at_call 247; refine (bits_yes _ _ _ V0.out (by omega) (by omega) V1.out).mono ?_; rintro e w' ⟨rfl, rfl⟩))
    go_wp2
    go_ret
    exact ⟨ret_int E.out.symm, bthen hb (by go_grown) (by simp)⟩
set_option maxRecDepth 100000 in
set_option maxHeartbeats 1000000 in
theorem color_any (s0 b0 s1 b1 s2 b2 s3 b3 word : Int) (w : World) (k0 : okM s0 b0) (k1 : okM s1 b1) (k2 : okM s2 b2) (k3 : okM s3 b3) :
    Calls Tryz.prog 225 #[.agg #[.int .i64 s0, .int .i64 b0, .int .i64 s1, .int .i64 b1, .int .i64 s2, .int .i64 b2, .int .i64 s3, .int .i64 b3], .int .i64 word] w fun e w' =>
      e = .returned (.agg #[.int .u8 (chI s0 b0 word 0), .int .u8 (chI s1 b1 word 0), .int .u8 (chI s2 b2 word 0), .int .u8 (chI s3 b3 word 255)]) ∧ Below w.heap.size w w' := by
  go_enter Tryz.func225, Tryz.ntmps225
  go_wp2
  go_region_held3 (fun w' => KS (w.heap.size + 1) ((w.alloc (Obj.cells #[Value.int IntKind.i64 s0, Value.int IntKind.i64 b0, Value.int IntKind.i64 s1, Value.int IntKind.i64 b1, Value.int IntKind.i64 s2, Value.int IntKind.i64 b2, Value.int IntKind.i64 s3, Value.int IntKind.i64 b3] 35)).alloc (Obj.cells #[Value.int IntKind.u8 0, Value.int IntKind.u8 0, Value.int IntKind.u8 0, Value.int IntKind.u8 0] 185)) (w.heap.size + 1) 4 w')
    (first | exact ks_next (by assumption) hb | exact ks_drew ⟨kp_refl (by simp), slot_alloc' (by simp) rfl⟩ | ((repeat (refine ks_set ?_ _ _ (by simp))); assumption))
      (first
        | (go_at_call 255; (with_reducible refine (chan_any s0 b0 _ _ _ k0).mono ?_); rintro e w1 ⟨rfl, hb⟩)
        | (go_at_call 255; (with_reducible refine (chan_any s1 b1 _ _ _ k1).mono ?_); rintro e w2 ⟨rfl, hb⟩)
        | (go_at_call 255; (with_reducible refine (chan_any s2 b2 _ _ _ k2).mono ?_); rintro e w3 ⟨rfl, hb⟩)
        | (go_at_call 255; (with_reducible refine (chan_any s3 b3 _ _ _ k3).mono ?_); rintro e w4 ⟨rfl, hb⟩))
  rename_i hH
  obtain ⟨hH1, hH2⟩ := hH
  obtain ⟨q0, q1, q2, q3⟩ := slot4 hH2
  have H1 := Hi hH1.1
  clear hH1 hH2
  go_wp2
  refine bodyPost_ret (v := .agg #[.int .u8 (chI s0 b0 word 0), .int .u8 (chI s1 b1 word 0), .int .u8 (chI s2 b2 word 0), .int .u8 (chI s3 b3 word 255)]) ?_ rfl ⟨rfl, ?_⟩
  · simp [results, Tryz.results225, go_sem, q0, q1, q2, q3]
  · exact bthen H1.out (by go_grown) (by simp)

def wordI (s b : Int) : Int := if rightB s b = true then (2 ^ b.toNat - 1) * 2 ^ s.toNat else 0
theorem common16 (w : World) : Calls Tryz.prog 69 #[.int .i64 16] w fun e w' => e = .returned (.tuple #[.agg #[.int .i64 10, .int .i64 5, .int .i64 5, .int .i64 5, .int .i64 0, .int .i64 5, .int .i64 0, .int .i64 0], .bool true]) ∧ Below w.heap.size w w' := by
  go_enter Tryz.func69, Tryz.ntmps69
  go_wp2
  refine bodyPost_ret (v := .tuple #[.agg #[.int .i64 10, .int .i64 5, .int .i64 5, .int .i64 5, .int .i64 0, .int .i64 5, .int .i64 0, .int .i64 0], .bool true]) (by simp [results, Tryz.results69, go_sem]) rfl ⟨rfl, by go_grown⟩
theorem common32 (w : World) : Calls Tryz.prog 69 #[.int .i64 32] w fun e w' => e = .returned (.tuple #[.agg #[.int .i64 16, .int .i64 8, .int .i64 8, .int .i64 8, .int .i64 0, .int .i64 8, .int .i64 0, .int .i64 0], .bool true]) ∧ Below w.heap.size w w' := by
  go_enter Tryz.func69, Tryz.ntmps69
  go_wp2
  refine bodyPost_ret (v := .tuple #[.agg #[.int .i64 16, .int .i64 8, .int .i64 8, .int .i64 8, .int .i64 0, .int .i64 8, .int .i64 0, .int .i64 0], .bool true]) (by simp [results, Tryz.results69, go_sem]) rfl ⟨rfl, by go_grown⟩
theorem common_no (n : Int) (w : World) (h1 : (n == 16) = false) (h2 : (n == 32) = false) : Calls Tryz.prog 69 #[.int .i64 n] w fun e w' => e = .returned (.tuple #[.agg #[.int .i64 0, .int .i64 0, .int .i64 0, .int .i64 0, .int .i64 0, .int .i64 0, .int .i64 0, .int .i64 0], .bool false]) ∧ Below w.heap.size w w' := by
  go_enter Tryz.func69, Tryz.ntmps69
  go_wp2
  refine bodyPost_ret (v := .tuple #[.agg #[.int .i64 0, .int .i64 0, .int .i64 0, .int .i64 0, .int .i64 0, .int .i64 0, .int .i64 0, .int .i64 0], .bool false]) (by simp [results, Tryz.results69, go_sem]) rfl ⟨rfl, by go_grown⟩
/-! ### Find -/
def tzF : Nat → Int → Nat
  | 0, _ => 0
  | f + 1, w => if w % 2 = 0 then tzF f (w / 2) + 1 else 0
def toF : Nat → Int → Nat
  | 0, _ => 0
  | f + 1, w => if w % 2 = 1 then toF f (w / 2) + 1 else 0
theorem tzF_spec (f : Nat) : ∀ w : Int, 0 < w → w < 2 ^ f → tzF f w < f ∧ w / 2 ^ tzF f w % 2 = 1 ∧ ∀ i, i < tzF f w → w / 2 ^ i % 2 = 0 := by
  induction f with
  | zero => intro w h0 h1; simp at h1; omega
  | succ f ih =>
    intro w h0 h1
    rw [pow_succ'] at h1
    unfold tzF
    by_cases hm : w % 2 = 0
    · rw [if_pos hm]
      obtain ⟨a, b, c⟩ := ih (w / 2) (by omega) (by omega)
      refine ⟨by omega, ?_, ?_⟩
      · rw [Int.pow_succ, Int.mul_comm, ← Int.ediv_ediv_of_nonneg (by decide)]; exact b
      · intro i hi
        cases i with
        | zero => simpa using hm
        | succ i => rw [Int.pow_succ, Int.mul_comm, ← Int.ediv_ediv_of_nonneg (by decide)]; exact c i (by omega)
    · rw [if_neg hm]
      exact ⟨by omega, by simp; omega, fun i hi => by omega⟩
theorem toF_spec (f : Nat) : ∀ w : Int, 0 ≤ w → w < 2 ^ f → toF f w ≤ f ∧ w / 2 ^ toF f w % 2 = 0 ∧ ∀ i, i < toF f w → w / 2 ^ i % 2 = 1 := by
  induction f with
  | zero => intro w h0 h1; simp at h1; exact ⟨by simp [toF], by simp [toF]; omega, fun i hi => by simp [toF] at hi⟩
  | succ f ih =>
    intro w h0 h1
    rw [pow_succ'] at h1
    unfold toF
    by_cases hm : w % 2 = 1
    · rw [if_pos hm]
      obtain ⟨a, b, c⟩ := ih (w / 2) (by omega) (by omega)
      refine ⟨by omega, ?_, ?_⟩
      · rw [Int.pow_succ, Int.mul_comm, ← Int.ediv_ediv_of_nonneg (by decide)]; exact b
      · intro i hi
        cases i with
        | zero => simpa using hm
        | succ i => rw [Int.pow_succ, Int.mul_comm, ← Int.ediv_ediv_of_nonneg (by decide)]; exact c i (by omega)
    · rw [if_neg hm]
      exact ⟨by omega, by simp; omega, fun i hi => by omega⟩
def fS (w : Int) : Nat := tzF 32 w
def fB (w : Int) : Nat := toF 32 (w / 2 ^ fS w)
def findI (w width : Int) : Int × Int × Int :=
  if ¬ width = 16 ∧ ¬ width = 32 then (0, 0, 1)
  else if w < 0 ∨ 2 ^ width.toNat - 1 < w then (0, 0, 2)
  else if w = 0 then (0, 0, 0)
  else if w / 2 ^ (fS w + fB w) = 0 then (fS w, fB w, 0) else (0, 0, 6)
def FindPost (w : World) (r : Int × Int × Int) (e : Ending) (w' : World) : Prop := e = .returned (.tuple #[.agg #[.int .i64 r.1, .int .i64 r.2.1], .int .i64 r.2.2]) ∧ Below w.heap.size w w'
set_option maxHeartbeats 400000 in
theorem find_arg (m width : Int) (w : World) (h1 : ¬ width = 16) (h2 : ¬ width = 32) : Calls Tryz.prog 206 #[.int .i64 m, .int .i64 width] w (FindPost w (0, 0, 1)) := by
  have g1 : (width != 16) = true := by simpa using h1
  have g2 : (width != 32) = true := by simpa using h2
  clear h1 h2
  go_enter Tryz.func206, Tryz.ntmps206
  go_wp2
  exact bodyPost_ret (v := .tuple #[.agg #[.int .i64 0, .int .i64 0], .int .i64 1]) (by simp [results, Tryz.results206, go_sem]) rfl (show FindPost _ _ _ _ from ⟨rfl, by go_grown⟩)
theorem ones16 : (2 : Int) ^ (16 : Int).toNat - 1 = 65535 := by decide
theorem ones32 : (2 : Int) ^ (32 : Int).toNat - 1 = 4294967295 := by decide
def FW (w wr : World) (k j : Nat) : Prop := Below w.heap.size w wr ∧ w.heap.size + 1 < wr.heap.size ∧ Slot w.heap.size 2 wr ∧ wr.cell? ⟨w.heap.size + 1, 0, none⟩ = some (.int .i64 k) ∧ wr.cell? ⟨w.heap.size + 1, 1, none⟩ = some (.int .i64 j) ∧ ∀ o, wr.frozen? ⟨w.heap.size + 1, o, none⟩ = false
theorem size_set (w : World) (a : Addr) (u : Value) : (w.setCell a u).heap.size = w.heap.size := by simp [World.setCell]
theorem fw_0 {w wr : World} {k j : Nat} (h : FW w wr k j) : FW w (wr.setCell ⟨w.heap.size + 1, 0, none⟩ (.int .i64 (↑k + 1))) (k + 1) j := by
  obtain ⟨f1, f2, f3, f4, f5, f6⟩ := h
  exact ⟨f1.setCell (by simp) _, by rw [size_set]; exact f2, slot_set f3 _ _, World.cell?_setCell_same _ _ _ f4, (slot_ne (by decide)).trans f5, fun o => by rw [World.frozen?_setCell]; exact f6 o⟩
theorem fw_1 {w wr : World} {k j : Nat} (h : FW w wr k j) : FW w (wr.setCell ⟨w.heap.size + 1, 1, none⟩ (.int .i64 (↑j + 1))) k (j + 1) := by
  obtain ⟨f1, f2, f3, f4, f5, f6⟩ := h
  exact ⟨f1.setCell (by simp) _, by rw [size_set]; exact f2, slot_set f3 _ _, (slot_ne (by decide)).trans f4, World.cell?_setCell_same _ _ _ f5, fun o => by rw [World.frozen?_setCell]; exact f6 o⟩
theorem div_step (m : Int) (k : Nat) : m / 2 ^ k / 2 = m / 2 ^ (k + 1) := (div_pow_succ m k).symm
theorem half_lt {x : Int} (h : 1 ≤ x) : (x / 2).toNat < x.toNat := by omega
theorem findI_go (m width : Int) (h1 : width = 16 ∨ width = 32) (h2 : 1 ≤ m) (h3 : m ≤ 2 ^ width.toNat - 1) : findI m width = if m / 2 ^ fS m / 2 ^ fB m = 0 then ((fS m : Int), (fB m : Int), 0) else (0, 0, 6) := by
  unfold findI
  rw [if_neg (by omega), if_neg (by omega), if_neg (by omega), Int.pow_add, ← Int.ediv_ediv_of_nonneg (Int.le_of_lt (pow_pos' _))]
set_option maxHeartbeats 2000000 in
theorem find_go (m width : Int) (w : World) (h1 : width = 16 ∨ width = 32) (h2 : 1 ≤ m) (h3 : m ≤ 2 ^ width.toNat - 1) : Calls Tryz.prog 206 #[.int .i64 m, .int .i64 width] w (FindPost w (findI m width)) := by
  have hm : m < 2 ^ 32 := by have := pow_le' (show width.toNat ≤ 32 by omega); omega
  have T0 := Hi (findI_go m width h1 h2 h3)
  obtain ⟨t1, t2, t3⟩ := tzF_spec 32 m (by omega) hm
  have hd0 : 0 ≤ m / 2 ^ fS m := Int.ediv_nonneg (by omega) (Int.le_of_lt (pow_pos' _))
  have hd1 : m / 2 ^ fS m ≤ m := Int.ediv_le_self _ (by omega)
  obtain ⟨u1, u2, u3⟩ := toF_spec 32 (m / 2 ^ fS m) hd0 (by omega)
  have T1 := Hi (show fS m < 32 from t1); have T2 := Hi (show m / 2 ^ fS m % 2 = 1 from t2); have T3 := Hi (show ∀ i, i < fS m → m / 2 ^ i % 2 = 0 from t3)
  have U1 := Hi (show fB m ≤ 32 from u1); have U2 := Hi (show m / 2 ^ fS m / 2 ^ fB m % 2 = 0 from u2); have U3 := Hi (show ∀ i, i < fB m → m / 2 ^ fS m / 2 ^ i % 2 = 1 from u3)
  clear t1 t2 t3 u1 u2 u3 hd0 hd1
  have hne : (m == 0) = false := by simp; omega
  have hM : m ≤ 4294967295 := by omega
  rcases h1 with rfl | rfl
  rw [ones16] at h3
  rotate_left
  rw [ones32] at h3
  all_goals
    go_enter Tryz.func206, Tryz.ntmps206
    go_wp2_with (go_at_call 246; (with_reducible refine (ones_any _ _ (by omega) (by omega)).mono ?_); rintro e w1 ⟨rfl, rfl⟩)
    go_loopw [0] (fun mv wr => ∃ k : Nat, k ≤ fS m ∧ mv = .int .i64 (m / 2 ^ k) ∧ FW w wr k 0) (fun mv _ => (intOf mv).toNat)
    case atStart =>
      exact ⟨0, by omega, by simp, by go_grown, by simp, slot_next (B := w.heap.size + 1) (slot_alloc' (t := 33) (cs := #[.int .i64 0, .int .i64 0]) (w := w) rfl rfl) (by go_grown) (by simp), by simp [go_sem], by simp [go_sem], by simp [go_sem]⟩
    case round =>
      obtain ⟨k, hk, rfl, hF⟩ := hrel
      have hF2 := Hi hF
      obtain ⟨f1, f2, f3, f4, f5, f6⟩ := hF
      have hk30 : k < 32 := by have := T1.out; omega
      by_cases hlt : k < fS m
      · have hb0 : m / 2 ^ k % 2 = 0 := T3.out k hlt
        have hpos : 1 ≤ m / 2 ^ k := by
          have hle : (2 : Int) ^ fS m ≤ m := by
            rcases Int.lt_or_le m (2 ^ fS m) with h | h
            · have := T2.out; rw [Int.ediv_eq_zero_of_lt (by omega) h] at this; simp at this
            · exact h
          have := pow_le' (Nat.le_of_lt hlt)
          exact Int.le_ediv_of_mul_le (pow_pos' k) (by omega)
        have hd : (bits BinOp.and IntKind.i64 (m / 2 ^ k) 1 == 0) = true := by rw [i64_and_one, hb0]; rfl
        have hP := Hi hpos
        clear hb0 hpos
        go_wp2
        go_roundw
        case rel => exact ⟨k + 1, by omega, by rw [div_step], fw_0 hF2.out⟩
        case measure => exact half_lt hP.out
      · obtain rfl : k = fS m := by omega
        have hd : (bits BinOp.and IntKind.i64 (m / 2 ^ fS m) 1 == 0) = false := by rw [i64_and_one, T2.out]; rfl
        clear hlt hk
        go_wp2
        go_loopw [0] (fun mv wr => ∃ j : Nat, j ≤ fB m ∧ mv = .int .i64 (m / 2 ^ fS m / 2 ^ j) ∧ FW w wr (fS m) j) (fun mv _ => (intOf mv).toNat)
        case atStart => exact ⟨0, by omega, by simp, hF2.out⟩
        case round =>
          obtain ⟨j, hj, rfl, hF⟩ := hrel
          clear f1 f2 f3 f4 f5 f6 hF2 hd
          have hF2 := Hi hF
          obtain ⟨f1, f2, f3, f4, f5, f6⟩ := hF
          have hj30 : j ≤ 32 := by have := U1.out; omega
          by_cases hlt : j < fB m
          · have hb0 : m / 2 ^ fS m / 2 ^ j % 2 = 1 := U3.out j hlt
            have hpos : 1 ≤ m / 2 ^ fS m / 2 ^ j := by
              have h0 : 0 ≤ m / 2 ^ fS m / 2 ^ j := Int.ediv_nonneg (Int.ediv_nonneg (by omega) (Int.le_of_lt (pow_pos' _))) (Int.le_of_lt (pow_pos' _))
              omega
            have hd : (bits BinOp.and IntKind.i64 (m / 2 ^ fS m / 2 ^ j) 1 == 1) = true := by rw [i64_and_one, hb0]; rfl
            have hP := Hi hpos
            clear hb0 hpos
            go_wp2
            go_roundw
            case rel => exact ⟨j + 1, by omega, by rw [div_step], fw_1 hF2.out⟩
            case measure => exact half_lt hP.out
          · obtain rfl : j = fB m := by omega
            have hd : (bits BinOp.and IntKind.i64 (m / 2 ^ fS m / 2 ^ fB m) 1 == 1) = false := by rw [i64_and_one, U2.out]; rfl
            clear hlt hj
            have S2 := Hi f3
            by_cases hz : m / 2 ^ fS m / 2 ^ fB m = 0
            · have hz' : (m / 2 ^ fS m / 2 ^ fB m != 0) = false := by rw [hz]; rfl
              have E := Hi (T0.out.trans (if_pos hz))
              clear hz
              go_wp2
              obtain ⟨q0, q1⟩ := slot2 (a := .int .i64 (fS m)) (b := .int .i64 (fB m)) S2.out
              refine bodyPost_ret (v := .tuple #[.agg #[.int .i64 (fS m), .int .i64 (fB m)], .int .i64 0]) (by simp [results, Tryz.results206, go_sem, q0, q1]) rfl (show FindPost _ _ _ _ from ⟨by rw [E.out], ?_⟩)
              exact (hF2.out.1.setCell (by simp) _).setCell (by simp) _
            · have hz' : (m / 2 ^ fS m / 2 ^ fB m != 0) = true := by simpa using hz
              have E := Hi (T0.out.trans (if_neg hz))
              clear hz
              go_wp2
              obtain ⟨q0, q1⟩ := slot2 (a := .int .i64 0) (b := .int .i64 0) S2.out
              refine bodyPost_ret (v := .tuple #[.agg #[.int .i64 0, .int .i64 0], .int .i64 6]) (by simp [results, Tryz.results206, go_sem, q0, q1]) rfl (show FindPost _ _ _ _ from ⟨by rw [E.out], ?_⟩)
              exact (hF2.out.1.setCell (by simp) _).setCell (by simp) _
set_option maxHeartbeats 1000000 in
theorem find_range (m width : Int) (w : World) (h1 : width = 16 ∨ width = 32) (h2 : m < 0 ∨ 2 ^ width.toNat - 1 < m) : Calls Tryz.prog 206 #[.int .i64 m, .int .i64 width] w (FindPost w (0, 0, 2)) := by
  rcases h1 with rfl | rfl
  rw [ones16] at h2
  rotate_left
  rw [ones32] at h2
  all_goals
    rcases h2 with h2 | h2
    all_goals
      go_enter Tryz.func206, Tryz.ntmps206
      go_wp2_with (go_at_call 246; (with_reducible refine (ones_any _ _ (by omega) (by omega)).mono ?_); rintro e w1 ⟨rfl, rfl⟩)
      exact bodyPost_ret (v := .tuple #[.agg #[.int .i64 0, .int .i64 0], .int .i64 2]) (by simp [results, Tryz.results206, go_sem]) rfl (show FindPost _ _ _ _ from ⟨rfl, by go_grown⟩)
set_option maxHeartbeats 1000000 in
theorem find_zero (width : Int) (w : World) (h1 : width = 16 ∨ width = 32) : Calls Tryz.prog 206 #[.int .i64 0, .int .i64 width] w (FindPost w (0, 0, 0)) := by
  rcases h1 with rfl | rfl
  all_goals
    go_enter Tryz.func206, Tryz.ntmps206
    go_wp2_with (go_at_call 246; (with_reducible refine (ones_any _ _ (by omega) (by omega)).mono ?_); rintro e w1 ⟨rfl, rfl⟩)
    exact bodyPost_ret (v := .tuple #[.agg #[.int .i64 0, .int .i64 0], .int .i64 0]) (by simp [results, Tryz.results206, go_sem]) rfl (show FindPost _ _ _ _ from ⟨rfl, by go_grown⟩)
theorem find_any (m width : Int) (w : World) : Calls Tryz.prog 206 #[.int .i64 m, .int .i64 width] w (FindPost w (findI m width)) := by
  by_cases h1 : width = 16 ∨ width = 32
  · by_cases h2 : m < 0 ∨ 2 ^ width.toNat - 1 < m
    · have : findI m width = (0, 0, 2) := by unfold findI; rw [if_neg (by omega), if_pos h2]
      rw [this]; exact find_range m width w h1 h2
    · by_cases h3 : m = 0
      · have : findI m width = (0, 0, 0) := by unfold findI; rw [if_neg (by omega), if_neg h2, if_pos h3]
        rw [this, h3]; exact find_zero width w h1
      · exact find_go m width w h1 (by omega) (by omega)
  · have : findI m width = (0, 0, 1) := by unfold findI; rw [if_pos (by omega)]
    rw [this]; exact find_arg m width w (by omega) (by omega)
/-! ### the references -/
theorem rbit_any (v i : Int) (w : World) (h0 : 0 ≤ i) (h1 : i ≤ 62) : Calls Tryz.prog 254 #[.int .i64 v, .int .i64 i] w fun e w' => e = .returned (.bool (bitB v i.toNat)) ∧ w = w' := by
  have E := Hi (show (bits BinOp.and IntKind.i64 (v / 2 ^ i.toNat) 1 == 1) = bitB v i.toNat by rw [i64_and_one]; unfold bitB; by_cases h : v / 2 ^ i.toNat % 2 = 1 <;> simp [h])
  go_enter Tryz.func254, Tryz.ntmps254
  go_wp2
  go_ret
  exact ⟨ret_bool E.out, rfl⟩
theorem power_any (n : Int) (w : World) (h0 : 0 ≤ n) (h1 : n ≤ 62) : Calls Tryz.prog 40 #[.int .i64 n] w fun e w' => e = .returned (.int .i64 (2 ^ n.toNat)) ∧ w = w' := by
  obtain ⟨n, rfl⟩ := Int.eq_ofNat_of_zero_le h0
  go_enter Tryz.func40, Tryz.ntmps40
  go_wp2
  go_loop [3, 4] (fun v i => ∃ k : Nat, k ≤ n ∧ i = .int .i64 k ∧ v = .int .i64 (2 ^ k)) (fun _ i => n - (intOf i).toNat)
  case atStart => exact ⟨0, by omega, rfl, rfl⟩
  case round =>
    obtain ⟨k, hk, rfl, rfl⟩ := hrel
    by_cases hlt : k < n
    · have hb := pow_le' (show k ≤ 61 by omega)
      have hp := pow_pos' k
      go_wp2
      go_round
      case rel => exact ⟨k + 1, by omega, by go_num, by rw [pow_succ']⟩
      case measure => simp [intOf]; omega
    · obtain rfl : k = n := by omega
      go_wp2
      go_ret
      exact ⟨by simp, rfl⟩
theorem far_any (v m x : Int) (w : World) (h0 : 0 ≤ v) (h1 : v ≤ 4294967295) (h2 : 0 ≤ m) (h3 : m ≤ 4294967295) (h4 : 0 ≤ x) (h5 : x ≤ 255) :
    Calls Tryz.prog 229 #[.int .i64 v, .int .i64 m, .int .i64 x] w fun e w' => e = .returned (.int .i64 ((v * 255 - x * m).natAbs : Int)) ∧ w = w' := by
  have q0 : 0 ≤ x * m := Int.mul_nonneg h4 h2
  have q1 : x * m ≤ 255 * 4294967295 := Int.mul_le_mul h5 h3 h2 (by decide)
  by_cases hneg : v * 255 - x * m < 0
  · have E := Hi (show -(v * 255 - x * m) = ((v * 255 - x * m).natAbs : Int) by omega)
    go_enter Tryz.func229, Tryz.ntmps229
    go_wp2
    go_ret
    exact ⟨ret_int E.out, rfl⟩
  · have E := Hi (show v * 255 - x * m = ((v * 255 - x * m).natAbs : Int) by omega)
    go_enter Tryz.func229, Tryz.ntmps229
    go_wp2
    go_ret
    exact ⟨ret_int E.out, rfl⟩
end Go.Proofs.YtlfbaggcfaenlaaGreat
namespace Go.Proofs.YtlfbaggcfaenlaaGreat
open Go.RowKit
set_option linter.unusedVariables false
theorem near_step (v m k : Int) (h0 : 0 ≤ v) (h2 : 1 ≤ m) (hk : 1 ≤ k) :
    (k ≤ mxI v m → (v * 255 - k * m).natAbs ≤ (v * 255 - (k - 1) * m).natAbs) ∧ (mxI v m < k → (v * 255 - mxI v m * m).natAbs < (v * 255 - k * m).natAbs) := by
  have e1 : (k - 1) * m = k * m - m := by rw [Int.sub_mul]; omega
  rw [e1]
  constructor
  · intro hle
    have : k * (2 * m) ≤ 2 * v * 255 + m := (Int.le_ediv_iff_mul_le (by omega)).1 hle
    have e : k * (2 * m) = 2 * (k * m) := by rw [← Int.mul_assoc, Int.mul_comm k 2, Int.mul_assoc]
    omega
  · intro hlt
    have h := Int.lt_ediv_add_one_mul_self (2 * v * 255 + m) (show 0 < 2 * m by omega)
    have e : (mxI v m + 1) * (2 * m) = 2 * (mxI v m * m) + 2 * m := by rw [Int.add_mul, ← Int.mul_assoc, Int.mul_comm (mxI v m) 2, Int.mul_assoc]; omega
    have hq : (mxI v m + 1) * m ≤ k * m := Int.mul_le_mul_of_nonneg_right (by omega) (by omega)
    rw [Int.add_mul] at hq
    change _ < (mxI v m + 1) * (2 * m) at h
    omega
theorem rmax_any (v m : Int) (w : World) (h0 : 0 ≤ v) (h1 : v ≤ m) (h2 : 1 ≤ m) (h3 : m ≤ 4294967295) :
    Calls Tryz.prog 176 #[.int .i64 v, .int .i64 m] w fun e w' => e = .returned (.int .i64 (mxI v m)) ∧ w = w' := by
  obtain ⟨B0, B1⟩ := mxI_bd v m h0 h1 h2
  have NS := fun (k : Int) (hk : 1 ≤ k) => near_step v m k h0 h2 hk
  have H := Hi NS
  clear NS
  go_enter Tryz.func176, Tryz.ntmps176
  go_wp2
  go_loop [5, 6] (fun b x => ∃ k : Int, 1 ≤ k ∧ k ≤ 256 ∧ x = .int .i64 k ∧ ((k ≤ mxI v m ∧ b = .int .i64 (k - 1)) ∨ (mxI v m < k ∧ b = .int .i64 (mxI v m)))) (fun _ x => 256 - (intOf x).toNat)
  case atStart =>
    refine ⟨1, by omega, by omega, rfl, ?_⟩
    by_cases h : 1 ≤ mxI v m
    · exact Or.inl ⟨h, rfl⟩
    · obtain h : mxI v m = 0 := by omega
      exact Or.inr ⟨by omega, by rw [h]⟩
  case round =>
    obtain ⟨k, k1, k2, rfl, hb⟩ := hrel
    by_cases hlt : k < 256
    · rcases hb with ⟨hb1, rfl⟩ | ⟨hb1, rfl⟩
      · have hs := (H.out k k1).1 hb1
        go_wp2_with (first | (go_at_call 229; (with_reducible refine (far_any v m k _ h0 (by omega) (by omega) h3 (by omega) (by omega)).mono ?_); rintro e w1 ⟨rfl, rfl⟩) | (go_at_call 229; (with_reducible refine (far_any v m (k - 1) _ h0 (by omega) (by omega) h3 (by omega) (by omega)).mono ?_); rintro e w1 ⟨rfl, rfl⟩))
        go_round
        case rel =>
          refine ⟨k + 1, by omega, by omega, rfl, ?_⟩
          by_cases h : k + 1 ≤ mxI v m
          · exact Or.inl ⟨h, by simp⟩
          · have h : mxI v m = k := by omega
            exact Or.inr ⟨by omega, by rw [h]⟩
        case measure => simp [intOf]; omega
      · have hs := (H.out k k1).2 hb1
        go_wp2_with (first | (go_at_call 229; (with_reducible refine (far_any v m k _ h0 (by omega) (by omega) h3 (by omega) (by omega)).mono ?_); rintro e w1 ⟨rfl, rfl⟩) | (go_at_call 229; (with_reducible refine (far_any v m (mxI v m) _ h0 (by omega) (by omega) h3 (by omega) (by omega)).mono ?_); rintro e w1 ⟨rfl, rfl⟩))
        go_round
        case rel => exact ⟨k + 1, by omega, by omega, rfl, Or.inr ⟨by omega, rfl⟩⟩
        case measure => simp [intOf]; omega
    · obtain rfl : k = 256 := by omega
      rcases hb with ⟨hb1, rfl⟩ | ⟨hb1, rfl⟩
      · omega
      · go_wp2
        go_ret
        exact ⟨rfl, rfl⟩
end Go.Proofs.YtlfbaggcfaenlaaGreat
namespace Go.Proofs.YtlfbaggcfaenlaaGreat
open Go.RowKit
def ofAcc (word mask : Int) : Nat → Int × Int
  | 0 => (0, 1)
  | k + 1 => if bitB mask k = true then (if bitB word k = true then (ofAcc word mask k).1 + (ofAcc word mask k).2 else (ofAcc word mask k).1, 2 * (ofAcc word mask k).2) else ofAcc word mask k
theorem ofAcc_bd (word mask : Int) (k : Nat) : 0 ≤ (ofAcc word mask k).1 ∧ (ofAcc word mask k).1 < (ofAcc word mask k).2 ∧ (ofAcc word mask k).2 ≤ 2 ^ k := by
  induction k with
  | zero => simp [ofAcc]
  | succ k ih =>
    have := pow_pos' k
    rw [pow_succ']; unfold ofAcc
    split <;> (try split) <;> (try simp only []) <;> omega
theorem ofAcc_succ (word mask : Int) (k : Nat) : ofAcc word mask (k + 1) = if bitB mask k = true then (if bitB word k = true then (ofAcc word mask k).1 + (ofAcc word mask k).2 else (ofAcc word mask k).1, 2 * (ofAcc word mask k).2) else ofAcc word mask k := rfl
def ofI (word mask : Int) : Int := (ofAcc word mask 32).1
theorem rof_any (word mask : Int) (w : World) : Calls Tryz.prog 230 #[.int .i64 word, .int .i64 mask] w fun e w' => e = .returned (.int .i64 (ofI word mask)) ∧ w = w' := by
  go_enter Tryz.func230, Tryz.ntmps230
  go_wp2
  go_loop [5, 6, 7] (fun v p i => ∃ k : Nat, k ≤ 32 ∧ i = .int .i64 k ∧ v = .int .i64 (ofAcc word mask k).1 ∧ p = .int .i64 (ofAcc word mask k).2) (fun _ _ i => 32 - (intOf i).toNat)
  case atStart => exact ⟨0, by omega, rfl, rfl, rfl⟩
  case round =>
    obtain ⟨k, hk, rfl, rfl, rfl⟩ := hrel
    obtain ⟨b0, b1, b2⟩ := ofAcc_bd word mask k
    by_cases hlt : k < 32
    · have b3 := pow_le' (show k ≤ 32 by omega)
      have E := Hi (ofAcc_succ word mask k)
      cases h1 : bitB mask k <;> cases h2 : bitB word k
      all_goals
        go_wp2_with (first | (go_at_call 254; (with_reducible refine (rbit_any mask k _ (by omega) (by omega)).mono ?_); rintro e w1 ⟨rfl, rfl⟩) | (go_at_call 254; (with_reducible refine (rbit_any word k _ (by omega) (by omega)).mono ?_); rintro e w1 ⟨rfl, rfl⟩))
        go_round
        case rel => exact ⟨k + 1, by omega, by go_num, by rw [E.out, h1]; simp [h2], by rw [E.out, h1]; simp [h2]⟩
        case measure => simp [intOf]; omega
    · obtain rfl : k = 32 := by omega
      go_wp2
      go_ret
      exact ⟨rfl, rfl⟩
def cntAcc (mask : Int) : Nat → Int
  | 0 => 0
  | k + 1 => if bitB mask k = true then cntAcc mask k + 1 else cntAcc mask k
theorem cntAcc_succ (mask : Int) (k : Nat) : cntAcc mask (k + 1) = if bitB mask k = true then cntAcc mask k + 1 else cntAcc mask k := rfl
theorem cntAcc_bd (mask : Int) (k : Nat) : 0 ≤ cntAcc mask k ∧ cntAcc mask k ≤ k := by
  induction k with
  | zero => simp [cntAcc]
  | succ k ih => unfold cntAcc; split <;> omega
theorem ofAcc_cnt (word mask : Int) (k : Nat) : (ofAcc word mask k).2 = 2 ^ (cntAcc mask k).toNat := by
  induction k with
  | zero => simp [ofAcc, cntAcc]
  | succ k ih =>
    have := (cntAcc_bd mask k).1
    unfold ofAcc cntAcc
    by_cases h : bitB mask k = true
    · simp only [h, if_true]
      rw [ih, show (cntAcc mask k + 1).toNat = (cntAcc mask k).toNat + 1 by omega, pow_succ']
    · simp only [h]; simpa using ih
theorem count_any (mask : Int) (w : World) : Calls Tryz.prog 231 #[.int .i64 mask] w fun e w' => e = .returned (.int .i64 (cntAcc mask 32)) ∧ w = w' := by
  go_enter Tryz.func231, Tryz.ntmps231
  go_wp2
  go_loop [3, 4] (fun n i => ∃ k : Nat, k ≤ 32 ∧ i = .int .i64 k ∧ n = .int .i64 (cntAcc mask k)) (fun _ i => 32 - (intOf i).toNat)
  case atStart => exact ⟨0, by omega, rfl, rfl⟩
  case round =>
    obtain ⟨k, hk, rfl, rfl⟩ := hrel
    obtain ⟨b0, b1⟩ := cntAcc_bd mask k
    by_cases hlt : k < 32
    · have E := Hi (cntAcc_succ mask k)
      cases h1 : bitB mask k
      all_goals
        go_wp2_with (go_at_call 254; (with_reducible refine (rbit_any mask k _ (by omega) (by omega)).mono ?_); rintro e w1 ⟨rfl, rfl⟩)
        go_round
        case rel => exact ⟨k + 1, by omega, by go_num, by rw [E.out, h1]; simp⟩
        case measure => simp [intOf]; omega
    · obtain rfl : k = 32 := by omega
      go_wp2
      go_ret
      exact ⟨rfl, rfl⟩
theorem cnt_pos (mask : Int) (h0 : 1 ≤ mask) (h1 : mask < 2 ^ 32) : 1 ≤ cntAcc mask 32 := by
  obtain ⟨a, b, _⟩ := tzF_spec 32 mask (by omega) h1
  have hb : bitB mask (tzF 32 mask) = true := by unfold bitB; simpa using b
  have h : ∀ k, tzF 32 mask < k → 1 ≤ cntAcc mask k := by
    intro k hk
    induction k with
    | zero => omega
    | succ k ih =>
      have := (cntAcc_bd mask k).1
      unfold cntAcc
      by_cases e : tzF 32 mask = k
      · rw [← e, hb, if_pos rfl]; rw [e]; omega
      · have := ih (by omega); split <;> omega
  exact h 32 a
def chR (word mask none : Int) : Int := if mask = 0 then none else mxI (ofI word mask) (2 ^ (cntAcc mask 32).toNat - 1)
theorem rchan_any (word mask none : Int) (w : World) (h0 : 0 ≤ mask) (h1 : mask < 2 ^ 32) (n0 : 0 ≤ none) (n1 : none ≤ 255) :
    Calls Tryz.prog 177 #[.int .i64 word, .int .i64 mask, .int .i64 none] w fun e w' => e = .returned (.int .u8 (chR word mask none)) ∧ w = w' := by
  by_cases hz : mask = 0
  · have E := Hi (show none = chR word mask none from (if_pos hz).symm)
    subst hz
    go_enter Tryz.func177, Tryz.ntmps177
    go_wp2
    go_ret
    exact ⟨ret_int (by rw [← E.out]; try omega), rfl⟩
  · have E := Hi (show mxI (ofI word mask) (2 ^ (cntAcc mask 32).toNat - 1) = chR word mask none from (if_neg hz).symm)
    have hz' : (mask == 0) = false := by simpa using hz
    have c1 := cnt_pos mask (by omega) h1
    obtain ⟨c2, c3⟩ := cntAcc_bd mask 32
    obtain ⟨b0, b1, b2⟩ := ofAcc_bd word mask 32
    rw [ofAcc_cnt] at b1
    have p0 := pow_pos' (cntAcc mask 32).toNat
    have p1 := pow_le' (show (cntAcc mask 32).toNat ≤ 32 by omega)
    have p2 := pow_le' (show 1 ≤ (cntAcc mask 32).toNat by omega)
    have hof : 0 ≤ ofI word mask ∧ ofI word mask ≤ 2 ^ (cntAcc mask 32).toNat - 1 := by unfold ofI; omega
    obtain ⟨o0, o1⟩ := hof
    obtain ⟨x0, x1⟩ := mxI_bd _ _ o0 o1 (by omega)
    clear b2 hz b0 b1
    go_enter Tryz.func177, Tryz.ntmps177
    go_wp2_with (first | (go_at_call 230; (with_reducible refine (rof_any word mask _).mono ?_); rintro e w1 ⟨rfl, rfl⟩) | (go_at_call 231; (with_reducible refine (count_any mask _).mono ?_); rintro e w1 ⟨rfl, rfl⟩) | (go_at_call 40; (with_reducible refine (power_any _ _ c2 (by omega)).mono ?_); rintro e w1 ⟨rfl, rfl⟩) | (go_at_call 176; (with_reducible refine (rmax_any _ _ _ o0 o1 (by omega) (by omega)).mono ?_); rintro e w1 ⟨rfl, rfl⟩))
    go_ret
    exact ⟨ret_int (by rw [← E.out]; try omega), rfl⟩
theorem rcolor_any (word r g b a : Int) (w : World) (r0 : 0 ≤ r) (r1 : r < 2 ^ 32) (g0 : 0 ≤ g) (g1 : g < 2 ^ 32) (b0 : 0 ≤ b) (b1 : b < 2 ^ 32) (a0 : 0 ≤ a) (a1 : a < 2 ^ 32) :
    Calls Tryz.prog 105 #[.int .i64 word, .int .i64 r, .int .i64 g, .int .i64 b, .int .i64 a] w fun e w' => e = .returned (.agg #[.int .u8 (chR word r 0), .int .u8 (chR word g 0), .int .u8 (chR word b 0), .int .u8 (chR word a 255)]) ∧ Below w.heap.size w w' := by
  go_enter Tryz.func105, Tryz.ntmps105
  go_wp2_with (first
    | (go_at_call 177; (with_reducible refine (rchan_any word r 0 _ r0 r1 (by omega) (by omega)).mono ?_); rintro e w1 ⟨rfl, rfl⟩)
    | (go_at_call 177; (with_reducible refine (rchan_any word g 0 _ g0 g1 (by omega) (by omega)).mono ?_); rintro e w1 ⟨rfl, rfl⟩)
    | (go_at_call 177; (with_reducible refine (rchan_any word b 0 _ b0 b1 (by omega) (by omega)).mono ?_); rintro e w1 ⟨rfl, rfl⟩)
    | (go_at_call 177; (with_reducible refine (rchan_any word a 255 _ a0 a1 (by omega) (by omega)).mono ?_); rintro e w1 ⟨rfl, rfl⟩))
  refine bodyPost_ret (v := .agg #[.int .u8 (chR word r 0), .int .u8 (chR word g 0), .int .u8 (chR word b 0), .int .u8 (chR word a 255)]) (by simp [results, Tryz.results105, go_sem]) rfl ⟨rfl, by go_grown⟩
def bothF (v u : Int) : Nat → Bool
  | 0 => false
  | k + 1 => bothF v u k || (bitB v k && bitB u k)
theorem bothF_succ (v u : Int) (k : Nat) : bothF v u (k + 1) = (bothF v u k || (bitB v k && bitB u k)) := rfl
theorem bothF_mono (v u : Int) (k j : Nat) (h : bothF v u k = true) (hj : k ≤ j) : bothF v u j = true := by
  induction j with
  | zero => obtain rfl : k = 0 := by omega
            exact h
  | succ j ih => by_cases e : k = j + 1
                 · subst e; exact h
                 · unfold bothF; rw [ih (by omega)]; rfl
theorem both_any (v u : Int) (w : World) : Calls Tryz.prog 221 #[.int .i64 v, .int .i64 u] w fun e w' => e = .returned (.bool (bothF v u 32)) ∧ w = w' := by
  go_enter Tryz.func221, Tryz.ntmps221
  go_wp2
  go_loop [5] (fun i => ∃ k : Nat, k ≤ 32 ∧ i = .int .i64 k ∧ bothF v u k = false) (fun i => 32 - (intOf i).toNat)
  case atStart => exact ⟨0, by omega, rfl, rfl⟩
  case round =>
    obtain ⟨k, hk, rfl, hf⟩ := hrel
    by_cases hlt : k < 32
    · have E := Hi (bothF_succ v u k)
      have F := Hi hf
      have M := Hi (fun h => bothF_mono v u (k + 1) 32 h (by omega))
      clear hf
      cases h1 : bitB v k <;> cases h2 : bitB u k
      all_goals
        go_wp2_with (first | (go_at_call 254; (with_reducible refine (rbit_any v k _ (by omega) (by omega)).mono ?_); rintro e w1 ⟨rfl, rfl⟩) | (go_at_call 254; (with_reducible refine (rbit_any u k _ (by omega) (by omega)).mono ?_); rintro e w1 ⟨rfl, rfl⟩))
        first
          | (go_ret
             exact ⟨ret_bool (by rw [M.out (by rw [E.out, F.out, h1, h2]; rfl)]), rfl⟩)
          | (go_round
             case rel => exact ⟨k + 1, by omega, by go_num, by rw [E.out, F.out, h1]; simp [h2]⟩
             case measure => simp [intOf]; omega)
    · obtain rfl : k = 32 := by omega
      have F := Hi hf
      clear hf
      go_wp2
      go_ret
      exact ⟨ret_bool F.out.symm, rfl⟩
def rfAcc (v : Int) : Nat → Int × Int × Int
  | 0 => (0, 0, 0)
  | k + 1 => if bitB v k = true then (if k = 0 ∨ bitB v (k - 1) = false then (k, (rfAcc v k).2.1 + 1, (rfAcc v k).2.2 + 1) else ((rfAcc v k).1, (rfAcc v k).2.1 + 1, (rfAcc v k).2.2)) else rfAcc v k
theorem rfAcc_succ (v : Int) (k : Nat) : rfAcc v (k + 1) = if bitB v k = true then (if k = 0 ∨ bitB v (k - 1) = false then ((k : Int), (rfAcc v k).2.1 + 1, (rfAcc v k).2.2 + 1) else ((rfAcc v k).1, (rfAcc v k).2.1 + 1, (rfAcc v k).2.2)) else rfAcc v k := rfl
theorem rfAcc_bd (v : Int) (k : Nat) : 0 ≤ (rfAcc v k).2.1 ∧ (rfAcc v k).2.1 ≤ k ∧ 0 ≤ (rfAcc v k).2.2 ∧ (rfAcc v k).2.2 ≤ k := by
  induction k with
  | zero => simp [rfAcc]
  | succ k ih => rw [rfAcc_succ]; split <;> (try split) <;> (try simp only []) <;> omega
def rfindI (v width : Int) : Int × Int × Int :=
  if ¬ width = 16 ∧ ¬ width = 32 then (0, 0, 1)
  else if v < 0 ∨ 2 ^ width.toNat ≤ v then (0, 0, 2)
  else if 1 < (rfAcc v width.toNat).2.2 then (0, 0, 6) else ((rfAcc v width.toNat).1, (rfAcc v width.toNat).2.1, 0)
theorem p16 : (2 : Int) ^ (16 : Int).toNat = 65536 := by decide
theorem p32 : (2 : Int) ^ (32 : Int).toNat = 4294967296 := by decide
theorem t16 : (16 : Int).toNat = 16 := rfl
theorem t32 : (32 : Int).toNat = 32 := rfl
def RFPost (w : World) (r : Int × Int × Int) (e : Ending) (w' : World) : Prop := e = .returned (.tuple #[.int .i64 r.1, .int .i64 r.2.1, .int .i64 r.2.2]) ∧ w = w'
theorem rfind_arg (v width : Int) (w : World) (h1 : ¬ width = 16) (h2 : ¬ width = 32) : Calls Tryz.prog 220 #[.int .i64 v, .int .i64 width] w (RFPost w (0, 0, 1)) := by
  have g1 : (width != 16) = true := by simpa using h1
  have g2 : (width != 32) = true := by simpa using h2
  clear h1 h2
  go_enter Tryz.func220, Tryz.ntmps220
  go_wp2
  go_ret3
  exact ⟨rfl, rfl⟩
theorem rfind_range (v width : Int) (w : World) (h1 : width = 16 ∨ width = 32) (h2 : v < 0 ∨ 2 ^ width.toNat ≤ v) : Calls Tryz.prog 220 #[.int .i64 v, .int .i64 width] w (RFPost w (0, 0, 2)) := by
  rcases h1 with rfl | rfl
  rw [p16] at h2
  rotate_left
  rw [p32] at h2
  all_goals
    rcases h2 with h2 | h2
    all_goals
      go_enter Tryz.func220, Tryz.ntmps220
      go_wp2_with (go_at_call 40; (with_reducible refine (power_any _ _ (by omega) (by omega)).mono ?_); rintro e w1 ⟨rfl, rfl⟩)
      go_ret3
      exact ⟨rfl, rfl⟩
set_option maxHeartbeats 1000000 in
theorem rfind_go (v width : Int) (w : World) (h1 : width = 16 ∨ width = 32) (h2 : 0 ≤ v) (h3 : v < 2 ^ width.toNat) : Calls Tryz.prog 220 #[.int .i64 v, .int .i64 width] w (RFPost w (rfindI v width)) := by
  have T0 := Hi (show rfindI v width = if 1 < (rfAcc v width.toNat).2.2 then (0, 0, 6) else ((rfAcc v width.toNat).1, (rfAcc v width.toNat).2.1, 0) by unfold rfindI; rw [if_neg (by omega), if_neg (by omega)])
  rcases h1 with rfl | rfl
  rw [p16] at h3
  obtain ⟨N, n1, n2⟩ : ∃ N : Nat, N ≤ 16 ∧ 16 ≤ N := ⟨16, by omega, by omega⟩
  rotate_left
  rw [p32] at h3
  obtain ⟨N, n1, n2⟩ : ∃ N : Nat, N ≤ 32 ∧ 32 ≤ N := ⟨32, by omega, by omega⟩
  all_goals
    go_enter Tryz.func220, Tryz.ntmps220
    go_wp2_with (go_at_call 40; (with_reducible refine (power_any _ _ (by omega) (by omega)).mono ?_); rintro e w1 ⟨rfl, rfl⟩)
    go_loop [7, 8, 9, 10] (fun a b c i => ∃ k : Nat, k ≤ N ∧ i = .int .i64 k ∧ a = .int .i64 (rfAcc v k).1 ∧ c = .int .i64 (rfAcc v k).2.2 ∧ b = .int .i64 (rfAcc v k).2.1) (fun _ _ _ i => N - (intOf i).toNat)
    case atStart => exact ⟨0, by omega, rfl, rfl, rfl, rfl⟩
    case round =>
      obtain ⟨k, hk, rfl, rfl, rfl, rfl⟩ := hrel
      obtain ⟨b0, b1, b2, b3⟩ := rfAcc_bd v k
      by_cases hlt : k < N
      · have E := Hi (rfAcc_succ v k)
        cases g1 : bitB v k
        · go_wp2_with (go_at_call 254; (with_reducible refine (rbit_any v k _ (by omega) (by omega)).mono ?_); rintro e w1 ⟨rfl, rfl⟩)
          go_round
          case rel => exact ⟨k + 1, by omega, by go_num, by rw [E.out, g1]; simp, by rw [E.out, g1]; simp, by rw [E.out, g1]; simp⟩
          case measure => simp [intOf]; omega
        · by_cases hk0 : k = 0
          · subst hk0
            go_wp2_with (go_at_call 254; (with_reducible refine (rbit_any v 0 _ (by omega) (by omega)).mono ?_); rintro e w1 ⟨rfl, rfl⟩)
            go_round
            case rel => exact ⟨0 + 1, by omega, by go_num, by rw [E.out, g1]; simp, by rw [E.out, g1]; simp, by rw [E.out, g1]; simp⟩
            case measure => simp [intOf]; omega
          · have hd : ((k : Int) == 0) = false := by simp; omega
            have hk1 : ((k : Int) - 1).toNat = k - 1 := by omega
            cases g2 : bitB v (k - 1)
            all_goals
              go_wp2_with (first | (go_at_call 254; (with_reducible refine (rbit_any v k _ (by omega) (by omega)).mono ?_); rintro e w1 ⟨rfl, rfl⟩) | (go_at_call 254; (with_reducible refine (rbit_any v (↑k - 1) _ (by omega) (by omega)).mono ?_); rintro e w1 ⟨rfl, rfl⟩))
              go_round
              case rel => exact ⟨k + 1, by omega, by go_num, by rw [E.out, g1]; simp [g2, hk0], by rw [E.out, g1]; simp [g2, hk0], by rw [E.out, g1]; simp [g2, hk0]⟩
              case measure => simp [intOf]; omega
      · have hge : N ≤ k := by omega
        by_cases hr : 1 < (rfAcc v k).2.2
        all_goals
          have E := Hi (T0.out)
          go_wp2
          go_ret3
          have ek : k = 16 ∨ k = 32 := by omega
          refine ⟨?_, rfl⟩
          rw [E.out]
          first | (rw [t16, ← show k = 16 by omega]) | (rw [t32, ← show k = 32 by omega])
          first | rw [if_pos (by omega)] | rw [if_neg (by omega)]
          rfl
theorem rfind_any (v width : Int) (w : World) : Calls Tryz.prog 220 #[.int .i64 v, .int .i64 width] w (RFPost w (rfindI v width)) := by
  by_cases h1 : width = 16 ∨ width = 32
  · by_cases h2 : v < 0 ∨ 2 ^ width.toNat ≤ v
    · have : rfindI v width = (0, 0, 2) := by unfold rfindI; rw [if_neg (by omega), if_pos h2]
      rw [this]; exact rfind_range v width w h1 h2
    · exact rfind_go v width w h1 (by omega) (by omega)
  · have : rfindI v width = (0, 0, 1) := by unfold rfindI; rw [if_pos (by omega)]
    rw [this]; exact rfind_arg v width w (by omega) (by omega)
def scan4 (f : Nat → Int) : Int × Int := if f 0 ≠ 0 then (0, f 0) else if f 1 ≠ 0 then (1, f 1) else if f 2 ≠ 0 then (2, f 2) else if f 3 ≠ 0 then (3, f 3) else (0, 0)
theorem scan4_at (f : Nat → Int) (k : Nat) (hk : k < 4) (h : ∀ j, j < k → f j = 0) (h2 : f k ≠ 0) : scan4 f = ((k : Int), f k) := by
  unfold scan4
  rcases (show k = 0 ∨ k = 1 ∨ k = 2 ∨ k = 3 by omega) with rfl | rfl | rfl | rfl
  · rw [if_pos h2]; rfl
  · rw [if_neg (by simp [h 0]), if_pos h2]; rfl
  · rw [if_neg (by simp [h 0]), if_neg (by simp [h 1]), if_pos h2]; rfl
  · rw [if_neg (by simp [h 0]), if_neg (by simp [h 1]), if_neg (by simp [h 2]), if_pos h2]; rfl
theorem scan4_none (f : Nat → Int) (h : ∀ j, j < 4 → f j = 0) : scan4 f = (0, 0) := by
  unfold scan4
  rw [if_neg (by simp [h 0]), if_neg (by simp [h 1]), if_neg (by simp [h 2]), if_neg (by simp [h 3])]
def anyBoth (l : Nat → Int) (k : Nat) : Nat → Bool
  | 0 => false
  | j + 1 => anyBoth l k j || bothF (l k) (l j) 32
theorem anyBoth_mono (l : Nat → Int) (k j i : Nat) (h : anyBoth l k j = true) (hj : j ≤ i) : anyBoth l k i = true := by
  induction i with
  | zero => obtain rfl : j = 0 := by omega
            exact h
  | succ i ih => by_cases e : j = i + 1
                 · subst e; exact h
                 · unfold anyBoth; rw [ih (by omega)]; rfl
theorem anyBoth_succ (l : Nat → Int) (k j : Nat) : anyBoth l k (j + 1) = (anyBoth l k j || bothF (l k) (l j) 32) := rfl
def rstep (l : Nat → Int) (width : Int) (k : Nat) : Int := if (rfindI (l k) width).2.2 ≠ 0 then (rfindI (l k) width).2.2 else if anyBoth l k k = true then 11 else 0
def RFour (w : World) (r : Int × Int) (e : Ending) (w' : World) : Prop := e = .returned (.tuple #[.int .i64 r.1, .int .i64 r.2]) ∧ Below w.heap.size w w'
set_option maxHeartbeats 1000000 in
theorem rfour_any (l : Nat → Int) (width : Int) (B : Nat) (w : World) (hB : B < w.heap.size) (hc : ∀ i, i < 4 → w.cell? ⟨B, i, none⟩ = some (.int .i64 (l i))) :
    Calls Tryz.prog 159 #[.slice (some ⟨B, 0, none⟩) 4 4, .int .i64 width] w (RFour w (scan4 (rstep l width))) := by
  go_enter Tryz.func159, Tryz.ntmps159
  go_wp2
  go_loopw [6] (fun i wr => ∃ k : Nat, k ≤ 4 ∧ i = .int .i64 k ∧ (∀ j, j < k → rstep l width j = 0) ∧ Below w.heap.size w wr) (fun i _ => 4 - (intOf i).toNat)
  case atStart => exact ⟨0, by omega, rfl, fun j hj => by omega, Below.refl _ _⟩
  case round =>
    obtain ⟨k, hk, rfl, hz, hbl⟩ := hrel
    have Z := Hi hz
    clear hz
    have C := Hi (fun i hi => ((bcell hbl).1 B i hB).trans (hc i hi))
    clear hc
    by_cases hlt : k < 4
    · have hck := C.out k hlt
      by_cases he : (rfindI (l k) width).2.2 = 0
      · have hd : ((rfindI (l k) width).2.2 != 0) = false := by rw [he]; rfl
        have He := Hi he
        clear he
        go_wp2_with (go_at_call 220; (with_reducible refine (rfind_any (l k) width _).mono ?_); rintro e w1 ⟨rfl, rfl⟩)
        obtain ⟨wo, rfl⟩ : ∃ wo : World, wo = wr := ⟨_, rfl⟩
        clear hck
        go_loopw [10] (fun i wr => ∃ j : Nat, j ≤ k ∧ i = .int .i64 j ∧ anyBoth l k j = false ∧ Below w.heap.size w wr) (fun i _ => k - (intOf i).toNat)
        case atStart => exact ⟨0, by omega, rfl, rfl, hbl⟩
        case round =>
          obtain ⟨j, hj, rfl, ha, hbl⟩ := hrel
          rename_i hbl0
          have C2 := Hi (fun i hi => ((bcell hbl).1 B i hB).trans (((bcell hbl0).1 B i hB).symm.trans (C.out i hi)))
          have A := Hi ha
          clear ha hbl0
          by_cases hjl : j < k
          · have hck := C2.out k hlt
            have hcj := C2.out j (by omega)
            have hj4 : (j : Int) < 4 := by omega
            have hj5 : (k : Int) < 4 := by omega
            have A2 := Hi (anyBoth_succ l k j)
            go_wp2
            go_quiet ((go_at_call 221; exact Calls.quiet_of_same ((both_any (l k) (l j) _).mono (fun e w' h => ⟨h.1, h.2.symm⟩))))
            go_wp2
            · have hb : bothF (l k) (l j) 32 = true := by assumption
              have ht : anyBoth l k k = true := anyBoth_mono l k (j + 1) k (by rw [A2.out, A.out, hb]; rfl) (by omega)
              have hs : rstep l width k = 11 := by unfold rstep; rw [if_neg (by simp [He.out]), if_pos ht]
              have hsc := scan4_at _ k hlt Z.out (by rw [hs]; decide)
              have S := Hi (hsc.trans (by rw [hs]))
              clear hsc hs ht
              go_ret2
              exact ⟨by rw [S.out]; rfl, bdrew hbl _⟩
            · have hb : bothF (l k) (l j) 32 = false := by assumption
              go_roundw
              case rel => exact ⟨j + 1, by omega, by go_num, by rw [A2.out, A.out, hb]; rfl, bdrew hbl _⟩
              case measure => simp [intOf]; omega
          · have ej : j = k := by omega
            have A3 : Hid (anyBoth l k k = false) := Hi (by rw [← ej]; rw [ej]; have := A.out; rwa [ej] at this)
            clear ej
            go_wp2
            go_roundw
            case rel =>
              refine ⟨k + 1, by omega, by go_num, fun i hi => ?_, hbl⟩
              by_cases e : i = k
              · rw [e]; unfold rstep; rw [if_neg (by simp [He.out]), if_neg (by rw [A3.out]; decide)]
              · exact Z.out i (by omega)
            case measure => simp [intOf]; omega
      · have hd : ((rfindI (l k) width).2.2 != 0) = true := by simpa using he
        have hs : rstep l width k = (rfindI (l k) width).2.2 := by unfold rstep; rw [if_pos he]
        have hsc := scan4_at _ k hlt Z.out (by rw [hs]; exact he)
        have S := Hi (hsc.trans (by rw [hs]))
        clear hsc hs he
        go_wp2_with (go_at_call 220; (with_reducible refine (rfind_any (l k) width _).mono ?_); rintro e w1 ⟨rfl, rfl⟩)
        go_ret2
        exact ⟨by rw [S.out]; rfl, hbl⟩
    · have S := Hi (scan4_none _ (fun j hj => Z.out j (by omega)))
      go_wp2
      go_ret2
      exact ⟨by rw [S.out]; rfl, hbl⟩
end Go.Proofs.YtlfbaggcfaenlaaGreat

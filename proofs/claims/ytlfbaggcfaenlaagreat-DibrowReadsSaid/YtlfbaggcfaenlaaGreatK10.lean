/- mask.Four. -/
import Derived.Test.YtlfbaggcfaenlaaGreatK9
import Derived.Test.YtlfbaggcfaenlaaGreatK0
namespace Go.Proofs.YtlfbaggcfaenlaaGreat
open Go.RowKit
def seenN (l : Nat → Int) : Nat → Nat
  | 0 => 0
  | k + 1 => seenN l k ||| (l k).toNat
theorem seenN_succ (l : Nat → Int) (k : Nat) : seenN l (k + 1) = seenN l k ||| (l k).toNat := rfl
def pstep (l : Nat → Int) (width : Int) (k : Nat) : Int := if (findI (l k) width).2.2 ≠ 0 then (findI (l k) width).2.2 else if (l k).toNat &&& seenN l k ≠ 0 then 11 else 0
theorem findI_ok (m width : Int) (h : (findI m width).2.2 = 0) : 0 ≤ m ∧ m < 2 ^ 32 := by
  unfold findI at h
  split at h
  · simp at h
  · split at h
    · simp at h
    · have := pow_le' (show width.toNat ≤ 32 by omega); omega
theorem seenN_lt (l : Nat → Int) (width : Int) (k : Nat) (h : ∀ j, j < k → pstep l width j = 0) : seenN l k < 2 ^ 32 := by
  induction k with
  | zero => simp [seenN]
  | succ k ih =>
    rw [seenN_succ]
    refine Nat.or_lt_two_pow (ih (fun j hj => h j (by omega))) ?_
    have hk := h k (by omega)
    have he : (findI (l k) width).2.2 = 0 := by
      unfold pstep at hk; split at hk
      · exact hk
      · rename_i h'; simpa using h'
    have := findI_ok _ _ he
    omega
def oc (l : Nat → Int) (width : Int) (k i : Nat) : Int := if i / 2 < k then (if i % 2 = 0 then (findI (l (i / 2)) width).1 else (findI (l (i / 2)) width).2.1) else 0
def F4 (l : Nat → Int) (width : Int) (w wr : World) (k : Nat) : Prop :=
  Below w.heap.size w wr ∧ w.heap.size + 1 < wr.heap.size ∧ Slot w.heap.size 8 wr ∧ (∀ o, wr.frozen? ⟨w.heap.size + 1, o, none⟩ = false) ∧ ∀ i, i < 8 → wr.cell? ⟨w.heap.size + 1, i, none⟩ = some (.int .i64 (oc l width k i))
theorem f4_call {l : Nat → Int} {width : Int} {w wr w1 : World} {k : Nat} (h : F4 l width w wr k) (hb : Below wr.heap.size wr w1) : F4 l width w w1 k := by
  obtain ⟨f1, f2, f3, f4, f5⟩ := h
  have hz := hb.size
  exact ⟨f1.trans (hb.mono (by omega)), by omega, slot_next f3 hb (by omega), fun o => ((bcell hb).2 _ _ f2).trans (f4 o), fun i hi => ((bcell hb).1 _ _ f2).trans (f5 i hi)⟩
theorem f4_step {l : Nat → Int} {width : Int} {w wr w1 : World} {k : Nat} (h : F4 l width w wr k) (hk : k < 4) (hb : Below wr.heap.size wr w1) (a b : Value)
    (ha : a = .int .i64 (findI (l k) width).1) (hb' : b = .int .i64 (findI (l k) width).2.1) :
    F4 l width w ((w1.setCell ⟨w.heap.size + 1, k * 2, none⟩ a).setCell ⟨w.heap.size + 1, k * 2 + 1, none⟩ b) (k + 1) := by
  obtain ⟨f1, f2, f3, f4, f5⟩ := h
  have hz := hb.size
  have hB : Below w.heap.size w w1 := f1.trans (hb.mono (by omega))
  have hB1 : Below wr.heap.size wr w1 := hb
  have s1 : Slot w.heap.size 8 w1 := slot_next f3 hB1 (by omega)
  have c1 : ∀ i, i < 8 → w1.cell? ⟨w.heap.size + 1, i, none⟩ = some (.int .i64 (oc l width k i)) := fun i hi => ((bcell hB1).1 _ _ f2).trans (f5 i hi)
  refine ⟨(hB.setCell (by simp) _).setCell (by simp) _, by rw [size_set, size_set]; omega, slot_set (slot_set s1 _ _) _ _, fun o => ?_, fun i hi => ?_⟩
  · rw [World.frozen?_setCell, World.frozen?_setCell, (bcell hB1).2 _ _ f2]; exact f4 o
  · have c2 : ∃ x, w1.cell? ⟨w.heap.size + 1, k * 2, none⟩ = some x := ⟨_, c1 _ (by omega)⟩
    obtain ⟨x, hx⟩ := c2
    by_cases e1 : i = k * 2 + 1
    · rw [e1, World.cell?_setCell_same _ _ _ ((slot_ne (by omega)).trans (c1 _ (by omega))), hb']
      unfold oc; rw [if_pos (by omega), if_neg (by omega), show (k * 2 + 1) / 2 = k by omega]
    · rw [slot_ne (by omega)]
      by_cases e2 : i = k * 2
      · rw [e2, World.cell?_setCell_same _ _ _ hx, ha]
        unfold oc; rw [if_pos (by omega), if_pos (by omega), show k * 2 / 2 = k by omega]
      · rw [slot_ne (by omega), c1 i hi]
        unfold oc
        by_cases e3 : i / 2 < k
        · have e4 : i / 2 < k + 1 := by omega
          simp only [e3, e4, if_true]
        · have e4 : ¬ i / 2 < k + 1 := by omega
          simp only [e3, e4, if_false]
theorem f4_step2 {l : Nat → Int} {width : Int} {w wr w1 : World} {k : Nat} (h : F4 l width w wr k) (hk : k < 4) (hb : Below wr.heap.size wr w1) (T : TypeId) (cs : Array Value) (a b : Value)
    (ha : a = .int .i64 (findI (l k) width).1) (hb' : b = .int .i64 (findI (l k) width).2.1) :
    F4 l width w (((w1.setCell ⟨w.heap.size + 1, k * 2, none⟩ a).setCell ⟨w.heap.size + 1, k * 2 + 1, none⟩ b).alloc (.cells cs T)) (k + 1) :=
  f4_call (f4_step h hk hb a b ha hb') ((Below.refl _ _).alloc (Nat.le_refl _) _)
theorem f4_slot {l : Nat → Int} {width : Int} {w w1 : World} {k : Nat} (h : F4 l width w w1 k) (cs : Array Value) (T : TypeId) : Slot w.heap.size 8 (w1.alloc (.cells cs T)) :=
  slot_next h.2.2.1 ((Below.refl _ _).alloc (Nat.le_refl _) _) h.2.2.1.2.2
theorem f4_slot2 {l : Nat → Int} {width : Int} {w w1 : World} {k : Nat} (h : F4 l width w w1 k) (cs : Array Value) (T : TypeId) : Below w.heap.size w (w1.alloc (.cells cs T)) :=
  h.1.alloc (Nat.le_of_lt h.2.2.1.2.2) _
def FourPost (w : World) (l : Nat → Int) (width : Int) (e : Ending) (w' : World) : Prop :=
  Below w.heap.size w w' ∧ e = .returned (.tuple #[.agg (if (scan4 (pstep l width)).2 = 0 then #[.int .i64 (findI (l 0) width).1, .int .i64 (findI (l 0) width).2.1, .int .i64 (findI (l 1) width).1, .int .i64 (findI (l 1) width).2.1, .int .i64 (findI (l 2) width).1, .int .i64 (findI (l 2) width).2.1, .int .i64 (findI (l 3) width).1, .int .i64 (findI (l 3) width).2.1]
     else #[.int .i64 0, .int .i64 0, .int .i64 0, .int .i64 0, .int .i64 0, .int .i64 0, .int .i64 0, .int .i64 0]), .int .i64 (scan4 (pstep l width)).1, .int .i64 (scan4 (pstep l width)).2])
theorem and_ne (l : Nat → Int) (width : Int) (k : Nat) (he : (findI (l k) width).2.2 = 0) (hz : ∀ j, j < k → pstep l width j = 0) : (bits BinOp.and IntKind.i64 (l k) (seenN l k) != 0) = decide ((l k).toNat &&& seenN l k ≠ 0) ∧ bits BinOp.or IntKind.i64 (seenN l k) (l k) = (seenN l (k + 1) : Int) := by
  have h1 := findI_ok _ _ he
  have h2 := seenN_lt l width k hz
  obtain ⟨n, hn⟩ := Int.eq_ofNat_of_zero_le h1.1
  rw [seenN_succ, hn]
  refine ⟨?_, ?_⟩
  · rw [i64_andN n (seenN l k) (by omega) (by omega)]
    by_cases h : n &&& seenN l k = 0 <;> simp [h]
  · rw [i64_orN (seenN l k) n (by omega) (by omega)]; simp
set_option maxHeartbeats 1000000 in
theorem four_any (l : Nat → Int) (width : Int) (w : World) :
    Calls Tryz.prog 143 #[.int .i64 (l 0), .int .i64 (l 1), .int .i64 (l 2), .int .i64 (l 3), .int .i64 width] w (FourPost w l width) := by
  have ix : ∀ k : Nat, k < 4 → ∀ w, (Instr.index 256 (.agg #[.int .i64 (l 0), .int .i64 (l 1), .int .i64 (l 2), .int .i64 (l 3)]) (.int .i64 k)).run Tryz.prog w = .ok (.int .i64 (l k)) w := by
    intro k hk w
    rcases (show k = 0 ∨ k = 1 ∨ k = 2 ∨ k = 3 by omega) with rfl | rfl | rfl | rfl
    · kernel_rfl
    · kernel_rfl
    · kernel_rfl
    · kernel_rfl
  have IX := Hi ix
  clear ix
  go_enter Tryz.func143, Tryz.ntmps143
  go_wp2
  go_loopw [14, 24] (fun s i wr => ∃ k : Nat, k ≤ 4 ∧ i = .int .i64 k ∧ s = .int .i64 (seenN l k) ∧ (∀ j, j < k → pstep l width j = 0) ∧ F4 l width w wr k) (fun _ i _ => 4 - (intOf i).toNat)
  case atStart =>
    refine ⟨0, by omega, rfl, rfl, fun j hj => by omega, by go_grown, by simp, ?_, fun o => by simp [go_sem], fun i hi => ?_⟩
    · exact slot_next (slot_alloc' (t := 35) (cs := #[.int .i64 0, .int .i64 0, .int .i64 0, .int .i64 0, .int .i64 0, .int .i64 0, .int .i64 0, .int .i64 0]) (w := w) rfl rfl) ((Below.refl _ _).alloc (Nat.le_refl _) _) (by simp)
    · rw [show oc l width 0 i = 0 by unfold oc; rw [if_neg (by omega)]]
      rcases (show i = 0 ∨ i = 1 ∨ i = 2 ∨ i = 3 ∨ i = 4 ∨ i = 5 ∨ i = 6 ∨ i = 7 by omega) with rfl | rfl | rfl | rfl | rfl | rfl | rfl | rfl <;> simp [go_sem]
  case round =>
    obtain ⟨k, hk, rfl, rfl, hz, hF⟩ := hrel
    have F := Hi hF
    have Z := Hi hz
    clear hz hF
    by_cases hlt : k < 4
    · have ik := IX.out k hlt
      by_cases he : (findI (l k) width).2.2 = 0
      · have hd : ((findI (l k) width).2.2 == 0) = true := by rw [he]; rfl
        have hd2 : ((findI (l k) width).2.2 != 0) = false := by rw [he]; rfl
        have AO := and_ne l width k he Z.out
        by_cases hs : (l k).toNat &&& seenN l k = 0
        · have hd3 : (bits BinOp.and IntKind.i64 (l k) (seenN l k) != 0) = false := by rw [AO.1]; simp [hs]
          have O := Hi AO.2
          have P0 := Hi (show pstep l width k = 0 by unfold pstep; rw [if_neg (by simp [he]), if_neg (by simp [hs])])
          clear he hs AO
          go_wp2_with (go_at_call 206; (with_reducible refine (find_any (l k) width _).mono ?_); rintro e w1 ⟨rfl, hb⟩; have F1 := Hi (f4_call F.out hb); obtain ⟨f1, f2, f3, f4, f5⟩ := F1.out; clear f1 f3; have g0 := f5 (k * 2) (by omega); have g1 := f5 (k * 2 + 1) (by omega); clear f5; have B1 := Hi hb; clear hb)
          go_roundw
          case rel =>
            refine ⟨k + 1, by omega, by go_num, by rw [← O.out], fun j hj => ?_, f4_step2 F.out hlt B1.out _ _ _ _ rfl rfl⟩
            by_cases e : j = k
            · rw [e]; exact P0.out
            · exact Z.out j (by omega)
          case measure => simp [intOf]; omega
        · have hd3 : (bits BinOp.and IntKind.i64 (l k) (seenN l k) != 0) = true := by rw [AO.1]; simp [hs]
          have hp : pstep l width k = 11 := by unfold pstep; rw [if_neg (by simp [he]), if_pos hs]
          have hsc := scan4_at _ k hlt Z.out (by rw [hp]; decide)
          have S := Hi (hsc.trans (by rw [hp]))
          clear hsc hs he hp AO
          go_wp2_with (first
            | (go_at_call 206; (with_reducible refine (find_any (l k) width _).mono ?_); rintro e w1 ⟨rfl, hb⟩; have F1 := Hi (f4_call F.out hb); clear hb)
            | (refine store_gen rfl 35 (.tmp 10) (.tmp 44) rfl w.heap.size 0 #[.int .i64 0, .int .i64 0, .int .i64 0, .int .i64 0, .int .i64 0, .int .i64 0, .int .i64 0, .int .i64 0] rfl rfl (slot_there (f4_slot F1.out _ _)) (by kernel_rfl) rfl ?_; intro w2 hst; have R := Hi (hst.range (slot_there (f4_slot F1.out _ _))); have B := Hi (hst.below (f4_slot2 F1.out _ _) (Nat.le_refl _)); clear hst))
          refine bodyPost_ret (v := .tuple #[.agg #[.int .i64 0, .int .i64 0, .int .i64 0, .int .i64 0, .int .i64 0, .int .i64 0, .int .i64 0, .int .i64 0], .int .i64 k, .int .i64 11]) ?_ rfl (show FourPost _ _ _ _ _ from ⟨B.out, ?_⟩)
          · exact results_c2 Tryz.results143 _ _ _ _ _ rfl R.out Tryz.underlying35 rfl (by kernel_rfl)
          · rw [S.out]; rfl
      · have hd : ((findI (l k) width).2.2 == 0) = false := by simpa using he
        have hd2 : ((findI (l k) width).2.2 != 0) = true := by simpa using he
        have hp : pstep l width k = (findI (l k) width).2.2 := by unfold pstep; rw [if_pos he]
        have hsc := scan4_at _ k hlt Z.out (by rw [hp]; exact he)
        have S := Hi (hsc.trans (by rw [hp]))
        have NE := Hi he
        clear hsc he hp
        go_wp2_with (first
          | (go_at_call 206; (with_reducible refine (find_any (l k) width _).mono ?_); rintro e w1 ⟨rfl, hb⟩; have F1 := Hi (f4_call F.out hb); clear hb)
          | (refine store_gen rfl 35 (.tmp 10) (.tmp 44) rfl w.heap.size 0 #[.int .i64 0, .int .i64 0, .int .i64 0, .int .i64 0, .int .i64 0, .int .i64 0, .int .i64 0, .int .i64 0] rfl rfl (slot_there (f4_slot F1.out _ _)) (by kernel_rfl) rfl ?_; intro w2 hst; have R := Hi (hst.range (slot_there (f4_slot F1.out _ _))); have B := Hi (hst.below (f4_slot2 F1.out _ _) (Nat.le_refl _)); clear hst))
        refine bodyPost_ret (v := .tuple #[.agg #[.int .i64 0, .int .i64 0, .int .i64 0, .int .i64 0, .int .i64 0, .int .i64 0, .int .i64 0, .int .i64 0], .int .i64 k, .int .i64 (findI (l k) width).2.2]) ?_ rfl (show FourPost _ _ _ _ _ from ⟨B.out, ?_⟩)
        · exact results_c2 Tryz.results143 _ _ _ _ _ rfl R.out Tryz.underlying35 rfl (by kernel_rfl)
        · rw [S.out, if_neg NE.out]
    · have he4 : k = 4 := by omega
      have S := Hi (scan4_none _ (fun j hj => Z.out j (by omega)))
      have F' := Hi (show F4 l width w wr 4 by rw [← he4]; exact F.out)
      have hge : 4 ≤ k := by omega
      clear he4 Z F
      obtain ⟨_, _, f3, _, f5⟩ := F'.out
      have g0 : wr.cell? ⟨w.heap.size + 1, 0, none⟩ = some (.int .i64 (findI (l 0) width).1) := f5 0 (by omega)
      have g1 : wr.cell? ⟨w.heap.size + 1, 1, none⟩ = some (.int .i64 (findI (l 0) width).2.1) := f5 1 (by omega)
      have g2 : wr.cell? ⟨w.heap.size + 1, 2, none⟩ = some (.int .i64 (findI (l 1) width).1) := f5 2 (by omega)
      have g3 : wr.cell? ⟨w.heap.size + 1, 3, none⟩ = some (.int .i64 (findI (l 1) width).2.1) := f5 3 (by omega)
      have g4 : wr.cell? ⟨w.heap.size + 1, 4, none⟩ = some (.int .i64 (findI (l 2) width).1) := f5 4 (by omega)
      have g5 : wr.cell? ⟨w.heap.size + 1, 5, none⟩ = some (.int .i64 (findI (l 2) width).2.1) := f5 5 (by omega)
      have g6 : wr.cell? ⟨w.heap.size + 1, 6, none⟩ = some (.int .i64 (findI (l 3) width).1) := f5 6 (by omega)
      have g7 : wr.cell? ⟨w.heap.size + 1, 7, none⟩ = some (.int .i64 (findI (l 3) width).2.1) := f5 7 (by omega)
      have F3 := Hi f3
      clear f3 f5
      go_wp2_with (refine store_gen rfl 35 (.tmp 10) (.tmp 62) rfl w.heap.size 0 #[.int .i64 (findI (l 0) width).1, .int .i64 (findI (l 0) width).2.1, .int .i64 (findI (l 1) width).1, .int .i64 (findI (l 1) width).2.1, .int .i64 (findI (l 2) width).1, .int .i64 (findI (l 2) width).2.1, .int .i64 (findI (l 3) width).1, .int .i64 (findI (l 3) width).2.1] rfl rfl (slot_there F3.out) (by kernel_rfl) rfl ?_; intro w2 hst; have R := Hi (hst.range (slot_there F3.out)); have B := Hi (hst.below F'.out.1 (Nat.le_refl _)); clear hst)
      refine bodyPost_ret (v := .tuple #[.agg #[.int .i64 (findI (l 0) width).1, .int .i64 (findI (l 0) width).2.1, .int .i64 (findI (l 1) width).1, .int .i64 (findI (l 1) width).2.1, .int .i64 (findI (l 2) width).1, .int .i64 (findI (l 2) width).2.1, .int .i64 (findI (l 3) width).1, .int .i64 (findI (l 3) width).2.1], .int .i64 0, .int .i64 0]) ?_ rfl (show FourPost _ _ _ _ _ from ⟨B.out, ?_⟩)
      · exact results_c2 Tryz.results143 _ _ _ _ _ rfl R.out Tryz.underlying35 rfl (by kernel_rfl)
      · rw [S.out]; rfl
end Go.Proofs.YtlfbaggcfaenlaaGreat

/- r30.All, r30.Format, walked. -/
import Derived.Test.YtlhcjnjajkfahaaNA
import Derived.Test.YtlhcjnjajkfahaaN8
import Derived.Test.YtlhcjnjajkfahaaO6
namespace Go.Proofs.Ytlhcjnjajkfahaa
open Go.RowKit
set_option linter.unusedVariables false
set_option linter.unusedSimpArgs false
theorem owns_below3 {B : Nat} {w w' : World} {base e size n : Nat} {v : Value} {xs : List Value} (h : w.ownsRow base e size v n xs) (hb : Below B w w') (hB : ∀ g, v.ownBlock = some g → g < B) : w'.ownsRow base e size v n xs := by
  obtain ⟨h1, h2⟩ := h
  refine ⟨h1, ?_⟩
  rcases h2 with h2 | ⟨g, cap, cur, rfl, hb', hg, rest⟩
  · exact Or.inl h2
  · exact Or.inr ⟨g, cap, cur, rfl, hb', by rw [hb.block g (hB g rfl)]; exact hg, rest⟩
/-- The formats, of the first k, whose signs a text has. -/
def allTo (s : ByteArray) : Nat → List Int
  | 0 => []
  | k + 1 => bif hasB s (ordL.getD k 0) then allTo s k ++ [ordL.getD k 0] else allTo s k
theorem allTo_len (s : ByteArray) (k : Nat) : (allTo s k).length ≤ k := by
  induction k with
  | zero => exact Nat.le_refl _
  | succ k ih => rw [allTo]; cases hasB s (ordL.getD k 0) <;> simp <;> omega
theorem ordV_get (k : Nat) (h : k < 8) : ordV.toArray[k]? = some (.int .i64 (ordL.getD k 0)) := by
  match k, h with
  | 0, _ | 1, _ | 2, _ | 3, _ | 4, _ | 5, _ | 6, _ | 7, _ => rfl
def AllPost (w : World) (s : ByteArray) (e : Ending) (w' : World) : Prop := ∃ v, e = .returned v ∧ w'.ownsRow w.heap.size 3 1 v (allTo s 8).length ((allTo s 8).map (.int .i64)) ∧ Below w.heap.size w w'
set_option maxRecDepth 100000 in
set_option maxHeartbeats 8000000 in
theorem rall_any (s : ByteArray) (w : World) (hs : s.size ≤ 9223372036854775807) : Calls Try.prog 21 #[.string s] w (AllPost w s) := by
  unfold AllPost
  have O7 := Lib.hid (obj1_new (w.alloc (.cells #[] 3)) ordV.toArray 3)
  have OW := Lib.hid (show (w.alloc (.cells #[] 3)).ownsRow w.heap.size 3 1 (.slice (some ⟨w.heap.size, 0, none⟩) 0 0) 0 [] from ⟨rfl, Or.inr ⟨w.heap.size, 0, #[], rfl, Nat.le_refl _, heap_alloc_new w _, Nat.le_refl _, Nat.zero_le _, rfl, rfl⟩⟩)
  have OW := Lib.hid (OW.out.alloc (.cells ordV.toArray 3))
  have BL := Lib.hid (((Below.refl w.heap.size w).alloc (Nat.le_refl _) (.cells #[] 3)).alloc (by simp) (.cells ordV.toArray 3))
  rw [show (w.alloc (.cells #[] 3)).heap.size = w.heap.size + 1 by simp] at O7
  go_enter Try.func21, Try.ntmps21
  go_upto_region 3 with (fail)
  obtain ⟨d7, hd7⟩ : ∃ d, w.heap.size + 1 = d := ⟨_, rfl⟩
  rw [hd7] at O7 ⊢
  have h7 : d7 ≠ w.heap.size := by omega
  have h7w : w.heap.size < d7 := by omega
  go_loopw [3, 5, 9] (fun v q5 c wr => ∃ k : Nat, k ≤ 8 ∧ c = .int .i64 k ∧ wr.ownsRow w.heap.size 3 1 v (allTo s k).length ((allTo s k).map (.int .i64)) ∧ Obj1 wr d7 ordV.toArray 3 ∧ v.ownBlock ≠ some d7 ∧ Below w.heap.size w wr) (fun _ _ c _ => 8 - (intOf c).toNat)
  case atStart => exact ⟨0, by omega, rfl, OW.out, O7.out, by simp [Value.ownBlock]; omega, BL.out⟩
  case round =>
    obtain ⟨k, hk, rfl, hown, hO, hne, hb⟩ := hrel
    have OW := Lib.hid hown
    have O7 := Lib.hid hO
    have HN := Lib.hid hne
    have BL := Lib.hid hb
    have zw := hb.size
    clear hown hO hne hb
    by_cases hlt : k < 8
    rotate_left
    · have hge : 8 ≤ k := by omega
      have E := Lib.hid (show k = 8 by omega)
      go_wp2
      go_ret
      exact ⟨_, rfl, by rw [← E.out]; exact OW.out, BL.out⟩
    · have hge : ¬ 8 ≤ k := by omega
      have hln := allTo_len s k
      obtain ⟨f, hf⟩ : ∃ f, ordL.getD k 0 = f := ⟨_, rfl⟩
      obtain ⟨hb, hhb⟩ : ∃ b, hasB s f = b := ⟨_, rfl⟩
      have EA := Lib.hid (show allTo s (k + 1) = bif hb then allTo s k ++ [f] else allTo s k by rw [allTo, hf, hhb])
      have HR := Lib.hid (fun w0 => (show Calls Try.prog 25 #[.string s, .int .i64 f] w0 (fun x w' => x = .returned (.bool hb) ∧ Below w0.heap.size w0 w') from (rhas_any s f w0 hs).mono fun x w' hh => ⟨hh.1.trans (by rw [hhb]), hh.2⟩))
      have ck : wr.cell? ⟨d7, k, none⟩ = some (.int .i64 f) := (O7.out.cell k).trans ((ordV_get k hlt).trans (by rw [hf]))
      obtain ⟨P, hP⟩ : ∃ P, allTo s k = P := ⟨_, rfl⟩
      rw [hP] at OW EA hln
      clear hf hhb hP
      go_upto_region 5 with (fail)
      clear ck
      cases hb
      · go_wp2_with ((go_at_call 25; (with_reducible refine (HR.out _).mono ?_); rintro x w4 ⟨rfl, hb⟩); have OW := Lib.hid (owns_below3 OW.out hb (fun g hg => (owns_blk OW.out hg).2)); have O7 := Lib.hid (O7.out.below hb O7.out.lt); have BL := Lib.hid (bthen hb BL.out zw); clear hb)
        go_roundw
        case rel => exact ⟨k + 1, by omega, by go_num, by rw [EA.out]; exact OW.out, O7.out, HN.out, BL.out⟩
        case measure => simp [intOf]; omega
      · go_wp2_with (first
          | ((go_at_call 25; (with_reducible refine (HR.out _).mono ?_); rintro x w4 ⟨rfl, hb⟩); have OW := Lib.hid (owns_below3 OW.out hb (fun g hg => (owns_blk OW.out hg).2)); have O7 := Lib.hid (O7.out.below hb O7.out.lt); have BL := Lib.hid (bthen hb BL.out zw); have zw4 := BL.out.size; clear hb)
          | (at_builtin; refine app1k rfl (.tmp 16) (.tmp 18) 22 rfl w.heap.size 3 (.int .i64 0) 8 Try.underlying22 (by kernel_rfl) rfl _ _ _ rfl OW.out _ rfl _ rfl (by omega) (by unfold maxLen; omega) zw4 ?_; intro v' w5 hown1 hC1 hg1 hz1; have O1 := Lib.hid hown1; have C1 := Lib.hid hC1; have G1 := Lib.hid hg1; clear hown1 hC1 hg1))
        go_roundw
        case rel => exact ⟨k + 1, by omega, by go_num, by rw [EA.out]; exact owns_eq O1.out (by simp) (by simp), C1.out.obj O7.out HN.out, not_own2 G1.out HN.out O7.out.lt, bchg BL.out C1.out zw4 (fun g hg => (owns_blk OW.out hg).1)⟩
        case measure => simp [intOf]; omega
end Go.Proofs.Ytlhcjnjajkfahaa

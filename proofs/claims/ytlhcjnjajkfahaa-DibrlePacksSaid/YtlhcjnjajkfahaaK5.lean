/- Layer 22's head of a file, walked. -/
import Derived.Test.YtlhcjnjajkfahaaK4
namespace Go.Proofs.Ytlhcjnjajkfahaa
open Go.RowKit
set_option linter.unusedVariables false
set_option linter.unusedSimpArgs false
/-- Append of some elements of one cell. -/
theorem appK {P : Program} {ops : Array Oper} {rest : List Oper} {o : Oper} {a : Act} {Q : Exit → Act → World → Prop} (hgd : o.guard = none) (s x : Operand) (t : TypeId)
    (ho : o.op = .call { callee := .builtin .append, args := #[s, x], argTypes := #[t, t] })
    (base : Nat) (e : TypeId) (z : Value) (bytes : Nat) (ht : P.underlying t = some (.slice e)) (hi : (P.info? e).map (fun i => (i.zero, i.size, i.bytes)) = some (some z, 1, bytes)) (hz1 : z.cells.size = 1)
    (v : Value) (n m : Nat) (xs : List Value) (hs : a.eval s = v) {wr : World} (hown : wr.ownsRow base e 1 v n xs) (C : List Value) (hC : ∀ u ∈ C, u.oneCell' = true) (hCl : C.length = m * 1) (T : TypeId)
    (hx : a.eval x = .slice (some ⟨wr.heap.size, 0, none⟩) m m) (hn : (n + m) * bytes ≤ 140737488355328) (hn2 : n + m ≤ maxLen) (hbase : base ≤ wr.heap.size)
    (h : ∀ v' w', w'.ownsRow base e 1 v' (n + m) (xs ++ C) → (∀ W, Below base W wr → Below base W w') → base ≤ w'.heap.size → wpList P ops Q rest (a.put o.dst v') w') :
    wpList P ops Q (o :: rest) a (wr.alloc (.cells C.toArray T)) := by
  obtain ⟨i, i1, i2, i3, i4⟩ := info_parts hi
  have hz : wr.heap.size < (wr.alloc (.cells C.toArray T)).heap.size := by simp
  refine wpList_append_own _ hgd s x t ho base e i z 1 bytes ht i1 i2 i3 i4 hz1 (by decide) v n xs hs (hown.alloc _) ⟨wr.heap.size, 0, none⟩ m m C hx hCl ?_ hC hn2 hn (by omega) ?_
  · intro j u hj
    exact news_obj (obj1_new wr C.toArray T) j u hj
  · intro v' w' hown' hgrow _
    refine h v' w' hown' (fun W hB => ?_) (Nat.le_trans (by omega) hgrow.size)
    refine (hB.alloc hbase _).grown hgrow (by omega) ?_
    intro k hk
    obtain ⟨_, h2⟩ := hown
    rcases h2 with ⟨rfl, _⟩ | ⟨g, cap, cur, rfl, hg, _⟩
    · simp [Value.ownBlock] at hk
    · simp [Value.ownBlock] at hk; omega
theorem owns_blockK (w : World) (L : List Int) (T : TypeId) (n : Nat) (hn : L.length = n) (hm : n ≤ maxLen) : (w.alloc (.cells ((L.map (Value.int .u8)).toArray) T)).ownsRow w.heap.size T 1 (.slice (some ⟨w.heap.size, 0, none⟩) n n) n (L.map (.int .u8)) := by
  subst hn
  exact ⟨by simp, Or.inr ⟨w.heap.size, L.length, (L.map (Value.int .u8)).toArray, rfl, Nat.le_refl _, heap_alloc_new w _, Nat.le_refl _, hm, by simp, by simp [List.take_of_length_le]⟩⟩
def tabI : Nat → List Int
  | 0 => []
  | m + 1 => tabI m ++ [(m : Int), 0, 0, 0]
theorem tabI_len (m : Nat) : (tabI m).length = 4 * m := by
  induction m with
  | zero => rfl
  | succ m ih => rw [tabI, List.length_append, ih]; simp; omega
def head8 (W H : Nat) : List Int := [40, 0, 0, 0, (W : Int), 0, 0, 0, (H : Int), 0, 0, 0, 1, 0, 8, 0, 1, 0, 0, 0, 0, 0, 0, 0, 0, 0, 0, 0, 0, 0, 0, 0, 0, 0, 0, 0, 0, 0, 0, 0]
theorem mk40_8 (w : World) : (Instr.makeSlice 72 (.int .i64 40) (.int .i64 40)).run Try.prog w = .ok (.slice (some ⟨w.heap.size, 0, none⟩) 40 40) (w.alloc (.cells #[.int .u8 0, .int .u8 0, .int .u8 0, .int .u8 0, .int .u8 0, .int .u8 0, .int .u8 0, .int .u8 0, .int .u8 0, .int .u8 0, .int .u8 0, .int .u8 0, .int .u8 0, .int .u8 0, .int .u8 0, .int .u8 0, .int .u8 0, .int .u8 0, .int .u8 0, .int .u8 0, .int .u8 0, .int .u8 0, .int .u8 0, .int .u8 0, .int .u8 0, .int .u8 0, .int .u8 0, .int .u8 0, .int .u8 0, .int .u8 0, .int .u8 0, .int .u8 0, .int .u8 0, .int .u8 0, .int .u8 0, .int .u8 0, .int .u8 0, .int .u8 0, .int .u8 0, .int .u8 0] 5)) := by kernel_rfl
set_option maxRecDepth 100000 in
set_option maxHeartbeats 8000000 in
theorem lhead8_any (W H : Nat) (w : World) (hW : W ≤ 40) (hH : H ≤ 40) : Calls Try.prog 15 #[.int .i64 W, .int .i64 H, .int .i64 8] w fun e w' => e = .returned (.string (strOf (head8 W H ++ tabI 256))) ∧ Below w.heap.size w w' := by
  have HM := @mk40_8
  have HPW := Lib.hid (fun w0 => (power_any 8 w0 (by decide) (by decide)).mono (R' := fun e w' => e = .returned (.int .i64 256) ∧ w' = w0) fun e w' hh => ⟨hh.1.trans (by rfl), hh.2.symm⟩)
  have e1 : IntKind.u8.wrap (W : Int) = (W : Int) := by show (W : Int) % 256 = W; omega
  have e2 : IntKind.u8.wrap (H : Int) = (H : Int) := by show (H : Int) % 256 = H; omega
  have hO := owns_blockK w (head8 W H) 5 40 rfl (by decide)
  go_enter Try.func15, Try.ntmps15
  go_wp2_with ((go_at_call 13; (with_reducible refine (HPW.out _).mono ?_); rintro e w5 ⟨rfl, rfl⟩))
  go_loopw [7, 8, 34] (fun v q8 c wr => ∃ i : Nat, i ≤ 256 ∧ c = .int .i64 i ∧ wr.ownsRow w.heap.size 5 1 v (40 + 4 * i) ((head8 W H ++ tabI i).map (.int .u8)) ∧ Below w.heap.size w wr) (fun _ _ c _ => 256 - (intOf c).toNat)
  case atStart => exact ⟨0, by omega, by first | rfl | simp, by rw [show head8 W H ++ tabI 0 = head8 W H from List.append_nil _]; exact hO, (Below.refl _ _).alloc (Nat.le_refl _) _⟩
  case round =>
    obtain ⟨i, hi, rfl, hown, hb⟩ := hrel
    have HO := Lib.hid hown
    have HB := Lib.hid hb
    have hsz := hb.size
    clear hown hb hO HM
    by_cases hlt : i < 256
    rotate_left
    · obtain rfl : i = 256 := by omega
      have hcv := owns_string (P := Try.prog) HO.out 72 9 5 Try.underlying72 Try.underlying5 Try.underlying9
      go_wp2_with fail
      go_ret
      exact ⟨rfl, HB.out⟩
    · have e3 : IntKind.u8.wrap (i : Int) = (i : Int) := by show (i : Int) % 256 = i; omega
      go_wp2_with (at_builtin; refine appK rfl (.tmp 37) (.tmp 40) 72 rfl w.heap.size 5 (.int .u8 0) 1 Try.underlying72 (by kernel_rfl) rfl _ _ 4 _ rfl HO.out [.int .u8 i, .int .u8 0, .int .u8 0, .int .u8 0] (by intro u hu; simp at hu; rcases hu with rfl | rfl <;> rfl) rfl _ rfl (by omega) (by unfold maxLen; omega) hsz ?_; intro v' w1 hown1 hB1 hz1; have O1 := Lib.hid hown1; have B1 := Lib.hid hB1; clear hown1 hB1)
      go_roundw
      case rel => exact ⟨i + 1, by omega, by go_num, owns_eq O1.out (by omega) (by rw [tabI]; simp), B1.out w HB.out⟩
      case measure => simp [intOf]; omega
def head4 (W H : Nat) : List Int := [40, 0, 0, 0, (W : Int), 0, 0, 0, (H : Int), 0, 0, 0, 1, 0, 4, 0, 2, 0, 0, 0, 0, 0, 0, 0, 0, 0, 0, 0, 0, 0, 0, 0, 0, 0, 0, 0, 0, 0, 0, 0]
theorem mk40_4 (w : World) : (Instr.makeSlice 72 (.int .i64 40) (.int .i64 40)).run Try.prog w = .ok (.slice (some ⟨w.heap.size, 0, none⟩) 40 40) (w.alloc (.cells #[.int .u8 0, .int .u8 0, .int .u8 0, .int .u8 0, .int .u8 0, .int .u8 0, .int .u8 0, .int .u8 0, .int .u8 0, .int .u8 0, .int .u8 0, .int .u8 0, .int .u8 0, .int .u8 0, .int .u8 0, .int .u8 0, .int .u8 0, .int .u8 0, .int .u8 0, .int .u8 0, .int .u8 0, .int .u8 0, .int .u8 0, .int .u8 0, .int .u8 0, .int .u8 0, .int .u8 0, .int .u8 0, .int .u8 0, .int .u8 0, .int .u8 0, .int .u8 0, .int .u8 0, .int .u8 0, .int .u8 0, .int .u8 0, .int .u8 0, .int .u8 0, .int .u8 0, .int .u8 0] 5)) := by kernel_rfl
set_option maxRecDepth 100000 in
set_option maxHeartbeats 8000000 in
theorem lhead4_any (W H : Nat) (w : World) (hW : W ≤ 40) (hH : H ≤ 40) : Calls Try.prog 15 #[.int .i64 W, .int .i64 H, .int .i64 4] w fun e w' => e = .returned (.string (strOf (head4 W H ++ tabI 16))) ∧ Below w.heap.size w w' := by
  have HM := @mk40_4
  have HPW := Lib.hid (fun w0 => (power_any 4 w0 (by decide) (by decide)).mono (R' := fun e w' => e = .returned (.int .i64 16) ∧ w' = w0) fun e w' hh => ⟨hh.1.trans (by rfl), hh.2.symm⟩)
  have e1 : IntKind.u8.wrap (W : Int) = (W : Int) := by show (W : Int) % 256 = W; omega
  have e2 : IntKind.u8.wrap (H : Int) = (H : Int) := by show (H : Int) % 256 = H; omega
  have hO := owns_blockK w (head4 W H) 5 40 rfl (by decide)
  go_enter Try.func15, Try.ntmps15
  go_wp2_with ((go_at_call 13; (with_reducible refine (HPW.out _).mono ?_); rintro e w5 ⟨rfl, rfl⟩))
  go_loopw [7, 8, 34] (fun v q8 c wr => ∃ i : Nat, i ≤ 16 ∧ c = .int .i64 i ∧ wr.ownsRow w.heap.size 5 1 v (40 + 4 * i) ((head4 W H ++ tabI i).map (.int .u8)) ∧ Below w.heap.size w wr) (fun _ _ c _ => 16 - (intOf c).toNat)
  case atStart => exact ⟨0, by omega, by first | rfl | simp, by rw [show head4 W H ++ tabI 0 = head4 W H from List.append_nil _]; exact hO, (Below.refl _ _).alloc (Nat.le_refl _) _⟩
  case round =>
    obtain ⟨i, hi, rfl, hown, hb⟩ := hrel
    have HO := Lib.hid hown
    have HB := Lib.hid hb
    have hsz := hb.size
    clear hown hb hO HM
    by_cases hlt : i < 16
    rotate_left
    · obtain rfl : i = 16 := by omega
      have hcv := owns_string (P := Try.prog) HO.out 72 9 5 Try.underlying72 Try.underlying5 Try.underlying9
      go_wp2_with fail
      go_ret
      exact ⟨rfl, HB.out⟩
    · have e3 : IntKind.u8.wrap (i : Int) = (i : Int) := by show (i : Int) % 256 = i; omega
      go_wp2_with (at_builtin; refine appK rfl (.tmp 37) (.tmp 40) 72 rfl w.heap.size 5 (.int .u8 0) 1 Try.underlying72 (by kernel_rfl) rfl _ _ 4 _ rfl HO.out [.int .u8 i, .int .u8 0, .int .u8 0, .int .u8 0] (by intro u hu; simp at hu; rcases hu with rfl | rfl <;> rfl) rfl _ rfl (by omega) (by unfold maxLen; omega) hsz ?_; intro v' w1 hown1 hB1 hz1; have O1 := Lib.hid hown1; have B1 := Lib.hid hB1; clear hown1 hB1)
      go_roundw
      case rel => exact ⟨i + 1, by omega, by go_num, owns_eq O1.out (by omega) (by rw [tabI]; simp), B1.out w HB.out⟩
      case measure => simp [intOf]; omega
end Go.Proofs.Ytlhcjnjajkfahaa

namespace Go.Proofs.Ytlhcjnjajkfahaa
open Go.RowKit
set_option linter.unusedVariables false
set_option linter.unusedSimpArgs false
def stL (x y p : Int) (v : Value) (k a : Int) : List Value := [.int .i64 x, .int .i64 y, .int .i64 p, v, .int .i64 k, .int .i64 a]
set_option maxRecDepth 100000 in
set_option maxHeartbeats 4000000 in
theorem bad22_any (x y p k0 a0 k a : Int) (b : Option Addr) (n c : Nat) (w : World) : Calls Try.prog 86 #[.agg (List.toArray (stL x y p (.slice b n c) k0 a0)), .int .i64 k, .int .i64 a] w (RA w (stL x y p (.slice b n c) k a)) := by
  unfold stL
  go_enter Try.func86, Try.ntmps86
  go_wp2
  refine bodyPost_ret (v := .agg (List.toArray (stL x y p (.slice b n c) k a))) ?_ rfl ⟨rfl, ((Below.refl _ _).alloc (Nat.le_refl _) _).alloc (by simp) _⟩
  refine results_c Try.results86 _ _ (w.heap.size + 1) (stL x y p (.slice b n c) k a) _ rfl (Obj1.range0 (cs := (stL x y p (.slice b n c) k a)) (T := 79) ?_) Try.underlying79 rfl (by kernel_rfl)
  have h := obj1_new (w.alloc (.cells (List.toArray (stL x y p (.slice b n c) k a)) 79)) (List.toArray (stL x y p (.slice b n c) k a)) 79
  rw [show (w.alloc (.cells (List.toArray (stL x y p (.slice b n c) k a)) 79)).heap.size = w.heap.size + 1 by simp] at h
  exact h
end Go.Proofs.Ytlhcjnjajkfahaa


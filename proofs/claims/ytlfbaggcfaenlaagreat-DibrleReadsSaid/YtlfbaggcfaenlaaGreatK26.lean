/- Rows of entries in packets: what Pack writes. No program in sight. -/
import Derived.Test.YtlfbaggcfaenlaaGreatK1
import Derived.Test.YtlfbaggcfaenlaaGreatProg
import Derived.Test.YtlfbaggcfaenlaaGreatK0
namespace Go.Proofs.YtlfbaggcfaenlaaGreat
open Go.RowKit
set_option linter.unusedVariables false
def runN (v : Int) : Nat → List Int → Nat
  | 0, _ => 0
  | _ + 1, [] => 0
  | k + 1, x :: t => if x = v then runN v k t + 1 else 0
theorem runN_le (v : Int) (k : Nat) (t : List Int) : runN v k t ≤ k ∧ runN v k t ≤ t.length := by
  induction k generalizing t with
  | zero => exact ⟨Nat.le_refl _, Nat.zero_le _⟩
  | succ k ih =>
    match t with
    | [] => exact ⟨Nat.zero_le _, Nat.le_refl _⟩
    | x :: t =>
      unfold runN
      have := ih t
      split <;> simp <;> omega
theorem runN_in (v : Int) (k : Nat) (t : List Int) (j : Nat) (h : j < runN v k t) : t[j]? = some v := by
  induction k generalizing t j with
  | zero => exact absurd h (Nat.not_lt_zero _)
  | succ k ih =>
    match t with
    | [] => exact absurd h (Nat.not_lt_zero _)
    | x :: t =>
      unfold runN at h
      split at h
      · rename_i e
        cases j with
        | zero => rw [e]; rfl
        | succ j => exact ih t j (by omega)
      · exact absurd h (Nat.not_lt_zero _)
theorem runN_end (v : Int) (k : Nat) (t : List Int) (h1 : runN v k t < k) (h2 : runN v k t < t.length) : ∃ x, t[runN v k t]? = some x ∧ x ≠ v := by
  induction k generalizing t with
  | zero => exact absurd h1 (Nat.not_lt_zero _)
  | succ k ih =>
    match t with
    | [] => exact absurd h2 (Nat.not_lt_zero _)
    | x :: t =>
      unfold runN at h1 h2 ⊢
      split
      · rename_i e
        rw [if_pos e] at h1 h2
        exact ih t (by omega) (by simp at h2; omega)
      · rename_i e; exact ⟨x, rfl, e⟩
def nRun (l : List Int) (i e : Nat) : Nat := 1 + runN (l.getD i 0) 254 ((l.drop (i + 1)).take (e - (i + 1)))
theorem nRun_pos (l : List Int) (i e : Nat) : 1 ≤ nRun l i e := by unfold nRun; omega
theorem nRun_le (l : List Int) (i e : Nat) (h : i < e) (he : e ≤ l.length) : nRun l i e ≤ 255 ∧ i + nRun l i e ≤ e := by
  have h1 := runN_le (l.getD i 0) 254 ((l.drop (i + 1)).take (e - (i + 1)))
  rw [List.length_take, List.length_drop] at h1
  unfold nRun; omega
theorem nRun_in (l : List Int) (i e j : Nat) (h : i < e) (he : e ≤ l.length) (hj : j < nRun l i e) : l.getD (i + j) 0 = l.getD i 0 := by
  cases j with
  | zero => rfl
  | succ j =>
    have h1 := runN_in (l.getD i 0) 254 ((l.drop (i + 1)).take (e - (i + 1))) j (by unfold nRun at hj; omega)
    rw [List.getElem?_take] at h1
    split at h1
    · rw [List.getElem?_drop] at h1
      rw [List.getD_eq_getElem?_getD, show i + (j + 1) = i + 1 + j by omega, h1]; rfl
    · cases h1
theorem nRun_end (l : List Int) (i e : Nat) (h : i < e) (he : e ≤ l.length) (h1 : nRun l i e < 255) (h2 : i + nRun l i e < e) : l.getD (i + nRun l i e) 0 ≠ l.getD i 0 := by
  have hl : ((l.drop (i + 1)).take (e - (i + 1))).length = e - (i + 1) := by rw [List.length_take, List.length_drop]; omega
  obtain ⟨x, hx, hn⟩ := runN_end (l.getD i 0) 254 ((l.drop (i + 1)).take (e - (i + 1))) (by unfold nRun at h1; omega) (by rw [hl]; unfold nRun at h2; omega)
  rw [List.getElem?_take] at hx
  split at hx
  · rw [List.getElem?_drop] at hx
    unfold nRun
    rw [List.getD_eq_getElem?_getD, show i + (1 + runN (l.getD i 0) 254 ((l.drop (i + 1)).take (e - (i + 1)))) = i + 1 + runN (l.getD i 0) 254 ((l.drop (i + 1)).take (e - (i + 1))) by omega, hx]; exact hn
  · cases hx
def pairV (d v : Int) : Int := if d = 4 then 17 * v else v
def rowEnd (w i : Nat) : Nat := (i / w + 1) * w
def encF (l : List Int) (w : Nat) (d : Int) : Nat → Nat → List Int
  | 0, _ => [0, 1]
  | f + 1, i => if i < l.length then [(nRun l i (rowEnd w i) : Int), pairV d (l.getD i 0)] ++ ((if i + nRun l i (rowEnd w i) = rowEnd w i then [0, 0] else []) ++ encF l w d f (i + nRun l i (rowEnd w i))) else [0, 1]
theorem encF_fuel (l : List Int) (w : Nat) (d : Int) : ∀ f i, l.length ≤ i + f → encF l w d (f + 1) i = encF l w d f i := by
  intro f
  induction f with
  | zero =>
    intro i h
    show (if i < l.length then _ else [0, 1]) = [0, 1]
    rw [if_neg (by omega)]
  | succ f ih =>
    intro i h
    have hp := nRun_pos l i (rowEnd w i)
    show (if i < l.length then [(nRun l i (rowEnd w i) : Int), pairV d (l.getD i 0)] ++ ((if i + nRun l i (rowEnd w i) = rowEnd w i then [0, 0] else []) ++ encF l w d (f + 1) (i + nRun l i (rowEnd w i))) else [0, 1]) = (if i < l.length then [(nRun l i (rowEnd w i) : Int), pairV d (l.getD i 0)] ++ ((if i + nRun l i (rowEnd w i) = rowEnd w i then [0, 0] else []) ++ encF l w d f (i + nRun l i (rowEnd w i))) else [0, 1])
    rw [ih _ (by omega)]
theorem encF_more (l : List Int) (w : Nat) (d : Int) (f k i : Nat) (h : l.length ≤ i + f) : encF l w d (f + k) i = encF l w d f i := by
  induction k with
  | zero => rfl
  | succ k ih => rw [← Nat.add_assoc, encF_fuel l w d (f + k) i (by omega), ih]
def encA (l : List Int) (w : Nat) (d : Int) (i : Nat) : List Int := encF l w d l.length i
theorem encA_step (l : List Int) (w : Nat) (d : Int) (i : Nat) (h : i < l.length) : encA l w d i = [(nRun l i (rowEnd w i) : Int), pairV d (l.getD i 0)] ++ ((if i + nRun l i (rowEnd w i) = rowEnd w i then [0, 0] else []) ++ encA l w d (i + nRun l i (rowEnd w i))) := by
  unfold encA
  have hp := nRun_pos l i (rowEnd w i)
  conv => lhs; rw [← encF_more l w d l.length 1 i (by omega), encF]
  rw [if_pos h]
theorem encA_end (l : List Int) (w : Nat) (d : Int) (i : Nat) (h : l.length ≤ i) : encA l w d i = [0, 1] := by
  unfold encA
  rw [← encF_more l w d l.length 1 i (by omega), encF, if_neg (by omega)]
theorem rowEnd_at (W r k : Nat) (h : k < W) : rowEnd W (r * W + k) = r * W + W := by
  unfold rowEnd
  rw [Nat.mul_comm r W, Nat.mul_add_div (by omega), Nat.div_eq_of_lt h, Nat.add_zero, Nat.add_mul, Nat.one_mul, Nat.mul_comm]
theorem appN {P : Program} {ops : Array Oper} {rest : List Oper} {o : Oper} {a : Act} {Q : Exit → Act → World → Prop} (hgd : o.guard = none) (s x : Operand) (t : TypeId)
    (ho : o.op = .call { callee := .builtin .append, args := #[s, x], argTypes := #[t, t] })
    (base : Nat) (e : TypeId) (z : Value) (bytes : Nat) (ht : P.underlying t = some (.slice e)) (hi : (P.info? e).map (fun i => (i.zero, i.size, i.bytes)) = some (some z, 1, bytes)) (hz1 : z.cells.size = 1)
    (v : Value) (n : Nat) (xs : List Value) (hs : a.eval s = v) {wr : World} (hown : wr.ownsRow base e 1 v n xs) (X Y : Value) (hX : X.oneCell' = true) (hY : Y.oneCell' = true) (T : TypeId)
    (hx : a.eval x = .slice (some ⟨wr.heap.size, 0, none⟩) 2 2) (hn : (n + 2) * bytes ≤ 140737488355328) (hn2 : n + 2 ≤ maxLen) (hbase : base ≤ wr.heap.size)
    (h : ∀ v' w', w'.ownsRow base e 1 v' (n + 2) (xs ++ [X, Y]) → (∀ W, Below base W wr → Below base W w') → base ≤ w'.heap.size → wpList P ops Q rest (a.put o.dst v') w') :
    wpList P ops Q (o :: rest) a (wr.alloc (.cells #[X, Y] T)) := by
  obtain ⟨i, i1, i2, i3, i4⟩ := info_parts hi
  have hz : wr.heap.size < (wr.alloc (.cells #[X, Y] T)).heap.size := by simp
  refine wpList_append_own _ hgd s x t ho base e i z 1 bytes ht i1 i2 i3 i4 hz1 (by decide) v n xs hs (hown.alloc _) ⟨wr.heap.size, 0, none⟩ 2 2 [X, Y] hx rfl ?_ ?_ hn2 hn (by omega) ?_
  · intro j u hj
    match j, hj with
    | 0, hj => simp at hj; subst hj; simp [Addr.add, go_sem]
    | 1, hj => simp at hj; subst hj; simp [Addr.add, go_sem]
  · intro u hu
    simp at hu
    rcases hu with rfl | rfl
    · exact hX
    · exact hY
  · intro v' w' hown' hgrow _
    refine h v' w' hown' (fun W hB => ?_) (Nat.le_trans (by omega) hgrow.size)
    refine (hB.alloc hbase _).grown hgrow (by omega) ?_
    intro k hk
    obtain ⟨_, h2⟩ := hown
    rcases h2 with ⟨rfl, _⟩ | ⟨g, cap, cur, rfl, hg, _⟩
    · simp [Value.ownBlock] at hk
    · simp [Value.ownBlock] at hk; omega
def Packs (w : World) (r : ByteArray × Int) (e : Ending) (w' : World) : Prop := e = .returned (.tuple #[.string r.1, .int .i64 r.2]) ∧ Below w.heap.size w w'
end Go.Proofs.YtlfbaggcfaenlaaGreat

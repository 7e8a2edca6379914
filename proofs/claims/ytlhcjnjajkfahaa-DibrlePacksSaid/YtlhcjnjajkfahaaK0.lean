/- Small facts that every text of this seat leans on: bits of machine integers, worlds behind calls. No program in sight. -/
import Derived.WalkKit
import Derived.WalkSpells
import Derived.WalkLawsBesides
import Derived.Handy
import Derived.Lib.Hide
import Derived.Deep.QuietTactic
import Derived.BigQuiet
import Derived.Deep.MidRow
import Derived.Test.YtlhcjnjajkfahaaProg
import Derived.Laws.LoneSync
import Derived.RegionCalls
import Derived.Defers
import Derived.StillTailTactics
import Derived.Lib.EndianBits
import Derived.StillTail
import Derived.Deep.Quiet
import Derived.Deep.CutRange
import Derived.Deep.RegionHeld3
namespace Go.Proofs.Ytlhcjnjajkfahaa
open Go.RowKit
set_option linter.unusedVariables false

theorem bcell {W w1 : World} {B : Nat} (hb : Below B W w1) : (∀ b o, b < B → w1.cell? ⟨b, o, none⟩ = W.cell? ⟨b, o, none⟩) ∧ (∀ b o, b < B → w1.frozen? ⟨b, o, none⟩ = W.frozen? ⟨b, o, none⟩) :=
  ⟨fun b o h => hb.cell (p := ⟨b, o, none⟩) h, fun b o h => hb.frozen (p := ⟨b, o, none⟩) h⟩

theorem bthen {B n : Nat} {a b c : World} (hb : Below n b c) (h : Below B a b) (hn : B ≤ n) : Below B a c := h.trans (hb.mono hn)

/-- A block of the call's own that a region stores into: n cells that can be written, whatever they hold. -/
def rd (w : World) (r o : Nat) : Value := (w.cell? ⟨r, o, none⟩).getD undef
abbrev Slot (r n : Nat) (w' : World) : Prop := (∀ o, w'.frozen? ⟨r, o, none⟩ = false) ∧ (∀ o, o < n → w'.cell? ⟨r, o, none⟩ = some (rd w' r o)) ∧ r < w'.heap.size
theorem slot_of {r n : Nat} {w : World} (h : ∀ o, w.frozen? ⟨r, o, none⟩ = false) (hc : ∀ o, o < n → ∃ v, w.cell? ⟨r, o, none⟩ = some v) (hr : r < w.heap.size) : Slot r n w :=
  ⟨h, fun o ho => by obtain ⟨v, hv⟩ := hc o ho; unfold rd; rw [hv]; rfl, hr⟩
theorem slot_set {r n : Nat} {w : World} (h : Slot r n w) (a : Addr) (u : Value) : Slot r n (w.setCell a u) :=
  slot_of (fun o => by rw [World.frozen?_setCell]; exact h.1 o) (fun o ho => cell?_setCell_some (h.2.1 o ho)) (by simpa [World.setCell] using h.2.2)
theorem below_setCells {B b : Nat} {a : World} (hb : B ≤ b) : ∀ (vs : List Value) (o : Nat) (w : World), Below B a w → Below B a (w.setCells b o vs)
  | [], _, _, h => h
  | v :: r, o, w, h => below_setCells hb r (o + 1) _ (h.setCell hb v)

theorem store_mid {P : Program} {ops : Array Oper} {rest : List Oper} {op : Oper} {a : Act} {w : World} {Q : Exit → Act → World → Prop} (hgd : op.guard = none) (ty : TypeId) (x y : Operand) (ho : op.op = .store ty x y)
    (b o : Nat) (cells : Array Value) (hx : a.eval x = .pointer (some ⟨b, o, none⟩)) (hy : a.eval y = .agg cells)
    (ht : w.there b o cells.size) (hi : (P.info? ty).map (·.size) = some cells.size) (h1 : cells.toList.all (·.oneCell') = true)
    (h : wpList P ops Q rest (a.put op.dst undef) (w.setCells b o cells.toList)) : wpList P ops Q (op :: rest) a w :=
  wpList_store_mid hgd ty x y ho b o cells hx hy ht hi (by rw [← Array.all_toList]; exact h1) h

theorem ret_int {k : IntKind} {a b : Int} (h : a = b) : Ending.returned (.int k a) = .returned (.int k b) := by rw [h]
theorem ret_bool {a b : Bool} (h : a = b) : Ending.returned (.bool a) = .returned (.bool b) := by rw [h]

theorem bdrew {B : Nat} {a w : World} (h : Below B a w) (n : Nat) : Below B a (w.drewN n) := by
  induction n generalizing w with
  | zero => exact h
  | succ n ih => exact (ih h).drew

/-! ### bits of an int -/
theorem i64_wrap_id (n : Int) (h₀ : 0 ≤ n) (h₁ : n < 2 ^ 63) : IntKind.i64.wrap n = n := by rw [IntKind.wrap_i64]; omega
theorem ofInt64_toNat (x : Int) : (BitVec.ofInt 64 x).toNat = (x % 18446744073709551616).toNat := by
  simp [BitVec.toNat_ofInt]
theorem emod_pow_pow (x : Int) (b : Nat) (hb : b ≤ 64) : x % 18446744073709551616 % 2 ^ b = x % 2 ^ b := by
  apply Int.emod_emod_of_dvd
  have : (18446744073709551616 : Int) = 2 ^ b * 2 ^ (64 - b) := by rw [← Int.pow_add, show b + (64 - b) = 64 by omega]; rfl
  rw [this]; exact Int.dvd_mul_right _ _
theorem i64_and_mask (x : Int) (b : Nat) (hb : b ≤ 62) : bits .and .i64 x (2 ^ b - 1) = x % 2 ^ b := by
  have hp : (0 : Int) < 2 ^ b := Int.pow_pos (by decide)
  have h0 := Int.emod_nonneg x (Int.ne_of_gt hp)
  have h1 := Int.emod_lt_of_pos x hp
  have hlt : (2 : Int) ^ b ≤ 2 ^ 62 := by
    have : (2 : Nat) ^ b ≤ 2 ^ 62 := Nat.pow_le_pow_right (by decide) hb
    exact_mod_cast this
  have hpn : 0 < 2 ^ b := Nat.two_pow_pos b
  have hltn : (2 : Nat) ^ b ≤ 2 ^ 62 := Nat.pow_le_pow_right (by decide) hb
  have hc : ((2 : Int) ^ b - 1) = ((2 ^ b - 1 : Nat) : Int) := by rw [Int.natCast_sub hpn]; simp
  have hm : (BitVec.ofInt 64 ((2 : Int) ^ b - 1)).toNat = 2 ^ b - 1 := by
    rw [hc, BitVec.ofInt_natCast, BitVec.toNat_ofNat]; exact Nat.mod_eq_of_lt (by omega)
  have e : (BitVec.ofInt 64 x &&& BitVec.ofInt 64 ((2 : Int) ^ b - 1)).toNat = (x % 2 ^ b).toNat := by
    rw [BitVec.toNat_and, hm, Nat.and_two_pow_sub_one_eq_mod, ofInt64_toNat]
    have h2 := Int.emod_nonneg x (by decide : (18446744073709551616 : Int) ≠ 0)
    have : (((x % 18446744073709551616).toNat % 2 ^ b : Nat) : Int) = ((x % 2 ^ b).toNat : Int) := by
      rw [Int.natCast_emod, Int.toNat_of_nonneg h2, Int.toNat_of_nonneg h0, ← emod_pow_pow x b (by omega), Int.natCast_pow]; rfl
    exact Int.ofNat_inj.mp this
  show IntKind.i64.wrap ((BitVec.ofInt 64 x &&& BitVec.ofInt 64 ((2 : Int) ^ b - 1)).toNat : Int) = _
  rw [e, Int.toNat_of_nonneg h0]
  exact i64_wrap_id _ h0 (by omega)
theorem i64_and_one (x : Int) : bits .and .i64 x 1 = x % 2 := i64_and_mask x 1 (by decide)
/-- Bit i of an int. -/
def bitB (w : Int) (i : Nat) : Bool := decide (w / 2 ^ i % 2 = 1)
theorem pow_pos' (i : Nat) : (0 : Int) < 2 ^ i := Int.pow_pos (by decide)
theorem pow_succ' (i : Nat) : (2 : Int) ^ (i + 1) = 2 * 2 ^ i := by rw [Int.pow_succ, Int.mul_comm]
theorem pow_le' {i j : Nat} (h : i ≤ j) : (2 : Int) ^ i ≤ 2 ^ j := by
  have : (2 : Nat) ^ i ≤ 2 ^ j := Nat.pow_le_pow_right (by decide) h
  exact_mod_cast this
end Go.Proofs.Ytlhcjnjajkfahaa

namespace Go.Proofs.Ytlhcjnjajkfahaa
open Go.RowKit
/-- What a walk is told of a slice of integers that came in: it is nil, or it leads to a row of 'cap' cells. -/
def IsRow (k : IntKind) (w : World) (a : Option Addr) (len cap : Nat) (zs : List Int) : Prop :=
  (a = none ∧ len = 0 ∧ cap = 0 ∧ zs = []) ∨
  ∃ x, a = some x ∧ len ≤ cap ∧ cap ≤ maxLen ∧ zs.length = cap ∧ (∀ i, i < zs.length → w.cell? (x.add i) = some (.int k (zs.getD i 0))) ∧ ∀ n ∈ zs, (Lit.int k n).wf = true
/-- A struct is stored: what is behind it is a world w2 of which alone is known that it is w with these cells. -/
def Stored (w : World) (b o : Nat) (vs : List Value) (w2 : World) : Prop := w2 = w.setCells b o vs
theorem store_gen {P : Program} {ops : Array Oper} {rest : List Oper} {op : Oper} {a : Act} {w : World} {Q : Exit → Act → World → Prop} (hgd : op.guard = none) (ty : TypeId) (x y : Operand) (ho : op.op = .store ty x y)
    (b o : Nat) (cells : Array Value) (hx : a.eval x = .pointer (some ⟨b, o, none⟩)) (hy : a.eval y = .agg cells)
    (ht : w.there b o cells.size) (hi : (P.info? ty).map (·.size) = some cells.size) (h1 : cells.toList.all (·.oneCell') = true)
    (h : ∀ w2, Stored w b o cells.toList w2 → wpList P ops Q rest (a.put op.dst undef) w2) : wpList P ops Q (op :: rest) a w :=
  store_mid hgd ty x y ho b o cells hx hy ht hi h1 (h _ rfl)
theorem Stored.below {w w2 a : World} {b o B : Nat} {vs : List Value} (h : Stored w b o vs w2) (hb : Below B a w) (hB : B ≤ b) : Below B a w2 := by
  rw [show w2 = _ from h]; exact below_setCells hB vs o w hb
theorem Stored.range {w w2 : World} {b o : Nat} {vs : List Value} (h : Stored w b o vs w2) (ht : w.there b o vs.length) : w2.rangeAt b o vs := by
  rw [show w2 = _ from h]; exact World.rangeAt_setCells_same w b o vs ht
theorem Stored.cell {w w2 : World} {b o : Nat} {vs : List Value} (h : Stored w b o vs w2) (b' o' : Nat) (hn : b' ≠ b ∨ o' < o ∨ o + vs.length ≤ o') : w2.cell? ⟨b', o', none⟩ = w.cell? ⟨b', o', none⟩ := by
  rw [show w2 = _ from h]
  exact World.cell?_setCells_out b vs o w _ (fun e _ => by rcases hn with hn | hn; · exact absurd e hn
                                                           · exact hn)
theorem Stored.frozen {w w2 : World} {b o : Nat} {vs : List Value} (h : Stored w b o vs w2) (a : Addr) : w2.frozen? a = w.frozen? a := by
  rw [show w2 = _ from h]; exact World.frozen?_setCells ..
theorem Stored.size {w w2 : World} {b o : Nat} {vs : List Value} (h : Stored w b o vs w2) : w2.heap.size = w.heap.size := by
  rw [show w2 = _ from h]; clear h
  induction vs generalizing w o with
  | nil => rfl
  | cons v r ih => rw [World.setCells, ih]; simp [World.setCell]
theorem Stored.slot {w w2 : World} {b o r n : Nat} {vs : List Value} (h : Stored w b o vs w2) (hs : Slot r n w) : Slot r n w2 := by
  rw [show w2 = _ from h]; clear h
  induction vs generalizing w o with
  | nil => exact hs
  | cons v rs ih => rw [World.setCells]; exact ih (slot_set hs _ _)
theorem results_c {P : Program} {fn : Func} {p : Tmp} {ty : TypeId} (h : fn.results = #[.cell p ty]) (tmps : Array Value) (w : World) (b : Nat) (cs : List Value) (d : TypeDesc)
    (hp : tmps.getD p undef = .pointer (some ⟨b, 0, none⟩)) (R : w.rangeAt b 0 cs) (hu : P.underlying ty = some d) (hd : d.isRow = true) (hi : (P.info? ty).map (·.size) = some cs.length) :
    (results fn tmps).run P w = .ok (.agg cs.toArray) w := by
  have hp' : tmps[p]?.getD undef = .pointer (some ⟨b, 0, none⟩) := by simpa using hp
  simp [results, h, hp', asAddr, run_loadVar_mid w b 0 ty cs d R hu hd hi]
end Go.Proofs.Ytlhcjnjajkfahaa

namespace Go.Proofs.Ytlhcjnjajkfahaa
open Go.RowKit
set_option linter.unusedVariables false
/-- The string of some bytes. -/
def strOf (ns : List Int) : ByteArray := ns.foldl (fun r n => r.push (UInt8.ofNat n.toNat)) ByteArray.empty
/-- The j-th cell of a slice of the call's own. -/
theorem owns_cell {w : World} {base e g n cap : Nat} {xs : List Value} (h : w.ownsRow base e 1 (.slice (some ⟨g, 0, none⟩) n cap) n xs) (j : Nat) (v : Value) (hv : xs[j]? = some v) : w.cell? ⟨g, j, none⟩ = some v := by
  obtain ⟨hl, h2⟩ := h
  rcases h2 with ⟨h2, _⟩ | ⟨g', cap', cur, hv', hg, hh, hn, hc, hs, ht⟩
  · simp at h2
  · injection hv' with hv'; injection hv' with hv'; injection hv' with hv'; subst hv'
    have hj : j < n := by rw [← Nat.mul_one n, ← hl]; exact (List.getElem?_eq_some_iff.1 hv).1
    rw [← ht, List.getElem?_take, if_pos (by omega)] at hv
    simp [World.cell?, hh]; simpa using hv
theorem owns_form {w : World} {base e n : Nat} {v : Value} {xs : List Value} (h : w.ownsRow base e 1 v n xs) (hn : 0 < n) : ∃ g cap, v = .slice (some ⟨g, 0, none⟩) n cap ∧ base ≤ g ∧ g < w.heap.size ∧ n ≤ cap ∧ cap ≤ maxLen := by
  obtain ⟨hl, h2⟩ := h
  rcases h2 with ⟨_, h2⟩ | ⟨g', cap', cur, hv', hg, hh, hn, hc, hs, ht⟩
  · omega
  · exact ⟨g', cap', hv', hg, (Array.getElem?_eq_some_iff.1 hh).1, hn, hc⟩
theorem owns_len {w : World} {base e n : Nat} {v : Value} {xs : List Value} (h : w.ownsRow base e 1 v n xs) : xs.length = n := by have := h.1; omega
/-- A slice of bytes of the call's own as a string. -/
theorem owns_string {P : Program} {w : World} {base e n : Nat} {v : Value} {ns : List Int} (h : w.ownsRow base e 1 v n (ns.map (Value.int .u8))) (src dst e' : TypeId)
    (hs : P.underlying src = some (.slice e')) (he : P.underlying e' = some (.int .u8)) (hd : P.underlying dst = some .string) : (convert src dst v).run P w = .ok (.string (strOf ns)) w := by
  have hl := owns_len h
  simp at hl
  by_cases h0 : n = 0
  · subst h0
    obtain rfl : ns = [] := List.length_eq_zero_iff.1 hl
    obtain ⟨_, h2⟩ := h
    rcases h2 with ⟨rfl, _⟩ | ⟨g, cap, cur, rfl, hg, hh, _⟩
    · rw [run_convert_bytes_string w src dst e' none 0 0 hs he hd]; rfl
    · rw [run_convert_bytes_string w src dst e' _ 0 cap hs he hd]
      exact run_bytesToString w _ 0 cap [] (by rfl)
  · obtain ⟨g, cap, rfl, _⟩ := owns_form h (by omega)
    rw [run_convert_bytes_string w src dst e' _ n cap hs he hd]
    refine run_bytesToString w _ n cap ns ?_
    have := run_loadCells_list (P := P) w ⟨g, 0, none⟩ (ns.map (Value.int .u8)) (fun j v hv => by rw [Addr.add_mid, Nat.zero_add]; exact owns_cell h j v hv)
    rw [List.length_map, hl] at this; exact this
end Go.Proofs.Ytlhcjnjajkfahaa

namespace Go.Proofs.Ytlhcjnjajkfahaa
open Go.RowKit
set_option linter.unusedVariables false
/-- How many of the first numbers are v, at most so many. -/
def runN (v : Int) : Nat → List Int → Nat
  | 0, _ => 0
  | _ + 1, [] => 0
  | k + 1, x :: t => if x = v then runN v k t + 1 else 0
theorem runN_le (v : Int) (k : Nat) (t : List Int) : runN v k t ≤ k ∧ runN v k t ≤ t.length := by
  induction k generalizing t with
  | zero => exact ⟨Nat.le_refl _, Nat.zero_le _⟩
  | succ k ih =>
    match t with
    | [] => exact ⟨Nat.zero_le _, Nat.le_refl _⟩
    | x :: t =>
      unfold runN
      have := ih t
      split <;> simp <;> omega
theorem runN_in (v : Int) (k : Nat) (t : List Int) (j : Nat) (h : j < runN v k t) : t[j]? = some v := by
  induction k generalizing t j with
  | zero => exact absurd h (Nat.not_lt_zero _)
  | succ k ih =>
    match t with
    | [] => exact absurd h (Nat.not_lt_zero _)
    | x :: t =>
      unfold runN at h
      split at h
      · rename_i e
        cases j with
        | zero => rw [e]; rfl
        | succ j => exact ih t j (by omega)
      · exact absurd h (Nat.not_lt_zero _)
theorem runN_end (v : Int) (k : Nat) (t : List Int) (h1 : runN v k t < k) (h2 : runN v k t < t.length) : ∃ x, t[runN v k t]? = some x ∧ x ≠ v := by
  induction k generalizing t with
  | zero => exact absurd h1 (Nat.not_lt_zero _)
  | succ k ih =>
    match t with
    | [] => exact absurd h2 (Nat.not_lt_zero _)
    | x :: t =>
      unfold runN at h1 h2 ⊢
      split
      · rename_i e
        rw [if_pos e] at h1 h2
        exact ih t (by omega) (by simp at h2; omega)
      · rename_i e; exact ⟨x, rfl, e⟩
/-- A packet's count: from the i-th number on, in a row that ends at e. -/
def nRun (l : List Int) (i e : Nat) : Nat := 1 + runN (l.getD i 0) 254 ((l.drop (i + 1)).take (e - (i + 1)))
theorem nRun_pos (l : List Int) (i e : Nat) : 1 ≤ nRun l i e := by unfold nRun; omega
theorem nRun_le (l : List Int) (i e : Nat) (h : i < e) (he : e ≤ l.length) : nRun l i e ≤ 255 ∧ i + nRun l i e ≤ e := by
  have h1 := runN_le (l.getD i 0) 254 ((l.drop (i + 1)).take (e - (i + 1)))
  rw [List.length_take, List.length_drop] at h1
  unfold nRun; omega
theorem nRun_in (l : List Int) (i e j : Nat) (h : i < e) (he : e ≤ l.length) (hj : j < nRun l i e) : l.getD (i + j) 0 = l.getD i 0 := by
  cases j with
  | zero => rfl
  | succ j =>
    have h1 := runN_in (l.getD i 0) 254 ((l.drop (i + 1)).take (e - (i + 1))) j (by unfold nRun at hj; omega)
    rw [List.getElem?_take] at h1
    split at h1
    · rw [List.getElem?_drop] at h1
      rw [List.getD_eq_getElem?_getD, show i + (j + 1) = i + 1 + j by omega, h1]; rfl
    · cases h1
theorem nRun_end (l : List Int) (i e : Nat) (h : i < e) (he : e ≤ l.length) (h1 : nRun l i e < 255) (h2 : i + nRun l i e < e) : l.getD (i + nRun l i e) 0 ≠ l.getD i 0 := by
  have hl : ((l.drop (i + 1)).take (e - (i + 1))).length = e - (i + 1) := by rw [List.length_take, List.length_drop]; omega
  obtain ⟨x, hx, hn⟩ := runN_end (l.getD i 0) 254 ((l.drop (i + 1)).take (e - (i + 1))) (by unfold nRun at h1; omega) (by rw [hl]; unfold nRun at h2; omega)
  rw [List.getElem?_take] at hx
  split at hx
  · rw [List.getElem?_drop] at hx
    unfold nRun
    rw [List.getD_eq_getElem?_getD, show i + (1 + runN (l.getD i 0) 254 ((l.drop (i + 1)).take (e - (i + 1)))) = i + 1 + runN (l.getD i 0) 254 ((l.drop (i + 1)).take (e - (i + 1))) by omega, hx]; exact hn
  · cases hx
/-- A packet's second byte. -/
def pairV (d v : Int) : Int := if d = 4 then 17 * v else v
def rowEnd (w i : Nat) : Nat := (i / w + 1) * w
/-- All packets from the i-th number on. -/
def encF (l : List Int) (w : Nat) (d : Int) : Nat → Nat → List Int
  | 0, _ => [0, 1]
  | f + 1, i => if i < l.length then [(nRun l i (rowEnd w i) : Int), pairV d (l.getD i 0)] ++ ((if i + nRun l i (rowEnd w i) = rowEnd w i then [0, 0] else []) ++ encF l w d f (i + nRun l i (rowEnd w i))) else [0, 1]
theorem encF_fuel (l : List Int) (w : Nat) (d : Int) : ∀ f i, l.length ≤ i + f → encF l w d (f + 1) i = encF l w d f i := by
  intro f
  induction f with
  | zero =>
    intro i h
    show (if i < l.length then _ else [0, 1]) = [0, 1]
    rw [if_neg (by omega)]
  | succ f ih =>
    intro i h
    have hp := nRun_pos l i (rowEnd w i)
    show (if i < l.length then [(nRun l i (rowEnd w i) : Int), pairV d (l.getD i 0)] ++ ((if i + nRun l i (rowEnd w i) = rowEnd w i then [0, 0] else []) ++ encF l w d (f + 1) (i + nRun l i (rowEnd w i))) else [0, 1]) = (if i < l.length then [(nRun l i (rowEnd w i) : Int), pairV d (l.getD i 0)] ++ ((if i + nRun l i (rowEnd w i) = rowEnd w i then [0, 0] else []) ++ encF l w d f (i + nRun l i (rowEnd w i))) else [0, 1])
    rw [ih _ (by omega)]
theorem encF_more (l : List Int) (w : Nat) (d : Int) (f k i : Nat) (h : l.length ≤ i + f) : encF l w d (f + k) i = encF l w d f i := by
  induction k with
  | zero => rfl
  | succ k ih => rw [← Nat.add_assoc, encF_fuel l w d (f + k) i (by omega), ih]
/-- The whole. -/
def encA (l : List Int) (w : Nat) (d : Int) (i : Nat) : List Int := encF l w d l.length i
theorem encA_step (l : List Int) (w : Nat) (d : Int) (i : Nat) (h : i < l.length) : encA l w d i = [(nRun l i (rowEnd w i) : Int), pairV d (l.getD i 0)] ++ ((if i + nRun l i (rowEnd w i) = rowEnd w i then [0, 0] else []) ++ encA l w d (i + nRun l i (rowEnd w i))) := by
  unfold encA
  have hp := nRun_pos l i (rowEnd w i)
  conv => lhs; rw [← encF_more l w d l.length 1 i (by omega), encF]
  rw [if_pos h]
theorem encA_end (l : List Int) (w : Nat) (d : Int) (i : Nat) (h : l.length ≤ i) : encA l w d i = [0, 1] := by
  unfold encA
  rw [← encF_more l w d l.length 1 i (by omega), encF, if_neg (by omega)]
theorem rowEnd_bd (w i : Nat) (hw : 1 ≤ w) : i < rowEnd w i ∧ rowEnd w i ≤ i + w := by
  unfold rowEnd
  have h1 := Nat.div_add_mod i w
  have h2 := Nat.mod_lt i hw
  rw [Nat.add_mul, Nat.one_mul, Nat.mul_comm]
  omega
theorem rowEnd_at (W r k : Nat) (h : k < W) : rowEnd W (r * W + k) = r * W + W := by
  unfold rowEnd
  rw [Nat.mul_comm r W, Nat.mul_add_div (by omega), Nat.div_eq_of_lt h, Nat.add_zero, Nat.add_mul, Nat.one_mul, Nat.mul_comm]
theorem rowEnd_mod (W i j : Nat) (hW : 1 ≤ W) (h : i < j) (h2 : j ≤ rowEnd W i) : j % W = 0 ↔ j = rowEnd W i := by
  constructor
  · intro hm
    rcases Nat.lt_or_ge j (rowEnd W i) with hl | hl
    · have h1 := Nat.div_add_mod i W
      have h3 := Nat.div_add_mod j W
      unfold rowEnd at hl
      have h4 : j / W < i / W + 1 := by rw [Nat.div_lt_iff_lt_mul (by omega)]; exact hl
      have h5 := Nat.mul_le_mul_left W (show j / W ≤ i / W by omega)
      omega
    · omega
  · intro e; rw [e]; unfold rowEnd; exact Nat.mul_mod_left _ _
theorem rowEnd_in (W R i n : Nat) (hn : n = R * W) (h : i < n) (hW : 1 ≤ W) : rowEnd W i ≤ n := by
  unfold rowEnd
  rw [hn]
  exact Nat.mul_le_mul_right W (by have : i / W < R := by rw [Nat.div_lt_iff_lt_mul (by omega)]; omega
                                   omega)
theorem rowEnd_left (W i : Nat) (hW : 1 ≤ W) : rowEnd W i - i = W - i % W := by
  unfold rowEnd
  have h1 := Nat.div_add_mod i W
  rw [Nat.add_mul, Nat.one_mul, Nat.mul_comm]
  omega
theorem owns_empty2 (w : World) (T : TypeId) : (w.alloc (.cells #[] T)).ownsRow w.heap.size T 1 (.slice (some ⟨w.heap.size, 0, none⟩) 0 0) 0 [] :=
  ⟨rfl, Or.inr ⟨w.heap.size, 0, #[], rfl, Nat.le_refl _, heap_alloc_new w _, Nat.le_refl _, Nat.zero_le _, rfl, rfl⟩⟩
/-- Append of some elements to a slice of the call's own: they were laid in a block of their own just before. -/
theorem appN {P : Program} {ops : Array Oper} {rest : List Oper} {o : Oper} {a : Act} {Q : Exit → Act → World → Prop} (hgd : o.guard = none) (s x : Operand) (t : TypeId)
    (ho : o.op = .call { callee := .builtin .append, args := #[s, x], argTypes := #[t, t] })
    (base : Nat) (e : TypeId) (z : Value) (bytes : Nat) (ht : P.underlying t = some (.slice e)) (hi : (P.info? e).map (fun i => (i.zero, i.size, i.bytes)) = some (some z, 1, bytes)) (hz1 : z.cells.size = 1)
    (v : Value) (n : Nat) (xs : List Value) (hs : a.eval s = v) {wr : World} (hown : wr.ownsRow base e 1 v n xs) (X Y : Value) (hX : X.oneCell' = true) (hY : Y.oneCell' = true) (T : TypeId)
    (hx : a.eval x = .slice (some ⟨wr.heap.size, 0, none⟩) 2 2) (hn : (n + 2) * bytes ≤ 140737488355328) (hn2 : n + 2 ≤ maxLen) (hbase : base ≤ wr.heap.size)
    (h : ∀ v' w', w'.ownsRow base e 1 v' (n + 2) (xs ++ [X, Y]) → (∀ W, Below base W wr → Below base W w') → base ≤ w'.heap.size → wpList P ops Q rest (a.put o.dst v') w') :
    wpList P ops Q (o :: rest) a (wr.alloc (.cells #[X, Y] T)) := by
  obtain ⟨i, i1, i2, i3, i4⟩ := info_parts hi
  have hz : wr.heap.size < (wr.alloc (.cells #[X, Y] T)).heap.size := by simp
  refine wpList_append_own _ hgd s x t ho base e i z 1 bytes ht i1 i2 i3 i4 hz1 (by decide) v n xs hs (hown.alloc _) ⟨wr.heap.size, 0, none⟩ 2 2 [X, Y] hx rfl ?_ ?_ hn2 hn (by omega) ?_
  · intro j u hj
    match j, hj with
    | 0, hj => simp at hj; subst hj; simp [Addr.add, go_sem]
    | 1, hj => simp at hj; subst hj; simp [Addr.add, go_sem]
  · intro u hu
    simp at hu
    rcases hu with rfl | rfl
    · exact hX
    · exact hY
  · intro v' w' hown' hgrow _
    refine h v' w' hown' (fun W hB => ?_) (Nat.le_trans (by omega) hgrow.size)
    refine (hB.alloc hbase _).grown hgrow (by omega) ?_
    intro k hk
    obtain ⟨_, h2⟩ := hown
    rcases h2 with ⟨rfl, _⟩ | ⟨g, cap, cur, rfl, hg, _⟩
    · simp [Value.ownBlock] at hk
    · simp [Value.ownBlock] at hk; omega
end Go.Proofs.Ytlhcjnjajkfahaa

namespace Go.Proofs.Ytlhcjnjajkfahaa
open Go.RowKit
theorem owns_eq {w : World} {base e n n' : Nat} {v : Value} {xs xs' : List Value} (h : w.ownsRow base e 1 v n xs) (hn : n = n') (hx : xs = xs') : w.ownsRow base e 1 v n' xs' := by subst hn hx; exact h
end Go.Proofs.Ytlhcjnjajkfahaa

namespace Go.Proofs.Ytlhcjnjajkfahaa
open Go.RowKit
set_option linter.unusedVariables false
def Packs (w : World) (r : ByteArray × Int) (e : Ending) (w' : World) : Prop := e = .returned (.tuple #[.string r.1, .int .i64 r.2]) ∧ Below w.heap.size w w'
end Go.Proofs.Ytlhcjnjajkfahaa

namespace Go.Proofs.Ytlhcjnjajkfahaa
open Go.RowKit
set_option linter.unusedVariables false
/-- A block that is known whole, and may be written. -/
def Obj1 (w : World) (b : Nat) (cs : Array Value) (T : TypeId) : Prop := w.heap[b]? = some (.cells cs T (0, 0))
theorem Obj1.cell {w : World} {b : Nat} {cs : Array Value} {T : TypeId} (h : Obj1 w b cs T) (i : Nat) : w.cell? ⟨b, i, none⟩ = cs[i]? := by
  unfold Obj1 at h; simp [World.cell?, h]
theorem Obj1.frozen {w : World} {b : Nat} {cs : Array Value} {T : TypeId} (h : Obj1 w b cs T) (i : Nat) : w.frozen? ⟨b, i, none⟩ = false := by
  unfold Obj1 at h; simp [World.frozen?, h]
theorem Obj1.lt {w : World} {b : Nat} {cs : Array Value} {T : TypeId} (h : Obj1 w b cs T) : b < w.heap.size := (Array.getElem?_eq_some_iff.1 h).1
theorem Obj1.set {w : World} {b : Nat} {cs : Array Value} {T : TypeId} (h : Obj1 w b cs T) (i : Nat) (v : Value) : Obj1 (w.setCell ⟨b, i, none⟩ v) b (cs.setIfInBounds i v) T := by
  unfold Obj1 at h ⊢; simp [World.setCell, Array.getElem?_modify, h]
theorem Obj1.set_other {w : World} {b : Nat} {cs : Array Value} {T : TypeId} (h : Obj1 w b cs T) (a : Addr) (v : Value) (hn : b ≠ a.block) : Obj1 (w.setCell a v) b cs T := by
  unfold Obj1 at h ⊢; rw [Below.heap_setCell _ _ _ _ hn]; exact h
theorem Obj1.alloc {w : World} {b : Nat} {cs : Array Value} {T : TypeId} (h : Obj1 w b cs T) (o : Obj) : Obj1 (w.alloc o) b cs T := by
  have hl := h.lt
  unfold Obj1 at h ⊢; rw [Below.heap_alloc _ _ _ hl]; exact h
theorem Obj1.drew {w : World} {b : Nat} {cs : Array Value} {T : TypeId} (h : Obj1 w b cs T) : Obj1 w.drew b cs T := h
theorem drewN_heap (w : World) (n : Nat) : (w.drewN n).heap = w.heap := by
  induction n generalizing w with
  | zero => rfl
  | succ n ih => exact ih w.drew
theorem Obj1.drewN {w : World} {b : Nat} {cs : Array Value} {T : TypeId} (h : Obj1 w b cs T) (n : Nat) : Obj1 (w.drewN n) b cs T := by
  unfold Obj1 at h ⊢; rw [drewN_heap]; exact h
theorem obj1_new (w : World) (cs : Array Value) (T : TypeId) : Obj1 (w.alloc (.cells cs T)) w.heap.size cs T := heap_alloc_new w _
theorem Obj1.below {w w' : World} {b B : Nat} {cs : Array Value} {T : TypeId} (h : Obj1 w b cs T) (hb : Below B w w') (hlt : b < B) : Obj1 w' b cs T := by
  unfold Obj1 at h ⊢; rw [hb.block b hlt]; exact h
/-- What a call may have changed: the blocks of S, and new ones. -/
structure Chg (S : Nat → Prop) (w w' : World) : Prop where
  os : w'.os = w.os
  tape : w'.tape = w.tape
  output : w'.output = w.output
  size : w.heap.size ≤ w'.heap.size
  block : ∀ k, k < w.heap.size → ¬ S k → w'.heap[k]? = w.heap[k]?
theorem Chg.refl (S : Nat → Prop) (w : World) : Chg S w w := ⟨rfl, rfl, rfl, Nat.le_refl _, fun _ _ _ => rfl⟩
theorem Chg.trans {S : Nat → Prop} {a b c : World} (h : Chg S a b) (k : Chg S b c) : Chg S a c :=
  ⟨k.os.trans h.os, k.tape.trans h.tape, k.output.trans h.output, Nat.le_trans h.size k.size, fun i hi hs => (k.block i (Nat.lt_of_lt_of_le hi h.size) hs).trans (h.block i hi hs)⟩
theorem Chg.mono {S S' : Nat → Prop} {w w' : World} (h : Chg S w w') (hS : ∀ k, k < w.heap.size → S k → S' k) : Chg S' w w' := ⟨h.os, h.tape, h.output, h.size, fun k hk hn => h.block k hk (fun hs => hn (hS k hk hs))⟩
theorem Chg.drew {S : Nat → Prop} {a w : World} (h : Chg S a w) : Chg S a w.drew := ⟨h.os, h.tape, h.output, h.size, h.block⟩
theorem Chg.drewN {S : Nat → Prop} {a w : World} (h : Chg S a w) (n : Nat) : Chg S a (w.drewN n) := by
  induction n with
  | zero => exact h
  | succ n ih => exact ih.drew
theorem Chg.set {S : Nat → Prop} {a w : World} (h : Chg S a w) (p : Addr) (v : Value) (hp : S p.block ∨ a.heap.size ≤ p.block) : Chg S a (w.setCell p v) :=
  ⟨h.os, h.tape, h.output, by simpa [World.setCell] using h.size, fun k hk hn => by
    rw [Below.heap_setCell _ _ _ _ (fun e => by subst e; rcases hp with hp | hp; · exact hn hp
                                                · omega)]
    exact h.block k hk hn⟩
theorem Chg.alloc {S : Nat → Prop} {a w : World} (h : Chg S a w) (o : Obj) : Chg S a (w.alloc o) :=
  ⟨h.os, h.tape, h.output, Nat.le_trans h.size (by simp), fun k hk hn => (Below.heap_alloc _ _ _ (Nat.lt_of_lt_of_le hk h.size)).trans (h.block k hk hn)⟩
theorem Chg.below {S : Nat → Prop} {w w' : World} (h : Chg S w w') {B : Nat} (hB : B ≤ w.heap.size) (hS : ∀ k, S k → B ≤ k) : Below B w w' :=
  ⟨h.os, h.tape, h.output, h.size, fun k hk => h.block k (by omega) (fun hs => by have := hS k hs; omega)⟩
theorem Chg.obj {S : Nat → Prop} {w w' : World} (h : Chg S w w') {b : Nat} {cs : Array Value} {T : TypeId} (ho : Obj1 w b cs T) (hn : ¬ S b) : Obj1 w' b cs T := by
  have hl := ho.lt
  unfold Obj1 at ho ⊢; rw [h.block b hl hn]; exact ho
theorem Chg.cell {S : Nat → Prop} {w w' : World} (h : Chg S w w') {b o : Nat} (hb : b < w.heap.size) (hn : ¬ S b) : w'.cell? ⟨b, o, none⟩ = w.cell? ⟨b, o, none⟩ := World.cell?_of_block (w := w) (h.block b hb hn)
end Go.Proofs.Ytlhcjnjajkfahaa

namespace Go.Proofs.Ytlhcjnjajkfahaa
open Go.RowKit
set_option linter.unusedVariables false
theorem Obj1.there {w : World} {b : Nat} {cs : Array Value} {T : TypeId} (h : Obj1 w b cs T) (o n : Nat) (hn : o + n ≤ cs.size) : w.there b o n := fun j hj => by
  refine ⟨?_, h.frozen _⟩
  rw [h.cell, Array.getElem?_eq_getElem (by omega)]; rfl
theorem Obj1.range0 {w : World} {b : Nat} {cs : List Value} {T : TypeId} (h : Obj1 w b cs.toArray T) : w.rangeAt b 0 cs := fun j v hv => by
  rw [h.cell, Nat.zero_add]; simpa using hv
def setL : Array Value → Nat → List Value → Array Value
  | cs, _, [] => cs
  | cs, o, v :: r => setL (cs.setIfInBounds o v) (o + 1) r
theorem Stored.obj {w w2 : World} {b o : Nat} {vs : List Value} {cs : Array Value} {T : TypeId} (hst : Stored w b o vs w2) (h : Obj1 w b cs T) : Obj1 w2 b (setL cs o vs) T := by
  rw [show w2 = _ from hst]; clear hst
  induction vs generalizing w o cs with
  | nil => exact h
  | cons v r ih => rw [World.setCells, setL]; exact ih (h.set o v)
theorem Stored.oth {w w2 : World} {b o b' : Nat} {vs : List Value} {cs : Array Value} {T : TypeId} (hst : Stored w b o vs w2) (h : Obj1 w b' cs T) (hn : b' ≠ b) : Obj1 w2 b' cs T := by
  rw [show w2 = _ from hst]; clear hst
  induction vs generalizing w o with
  | nil => exact h
  | cons v r ih => rw [World.setCells]; exact ih (h.set_other _ _ hn)
theorem setL_get' (vs : List Value) : ∀ (cs : Array Value) (o i : Nat), o + vs.length ≤ cs.size → (setL cs o vs)[i]? = if o ≤ i ∧ i < o + vs.length then vs[i - o]? else cs[i]? := by
  induction vs with
  | nil => intro cs o i h; rw [setL, if_neg (by simp)]
  | cons v r ih =>
    intro cs o i h
    rw [setL, ih _ _ _ (by simp at h ⊢; omega)]
    simp only [List.length_cons] at h ⊢
    by_cases h1 : o + 1 ≤ i ∧ i < o + 1 + r.length
    · rw [if_pos h1, if_pos (by omega), show i - o = (i - (o + 1)) + 1 by omega, List.getElem?_cons_succ]
    · rw [if_neg h1]
      by_cases h2 : i = o
      · subst h2; rw [if_pos (by omega), Nat.sub_self]; simp [Array.getElem?_setIfInBounds]; omega
      · rw [if_neg (by omega), Array.getElem?_setIfInBounds, if_neg (by omega)]
theorem setL_full' (cs : Array Value) (vs : List Value) (h : vs.length = cs.size) : setL cs 0 vs = vs.toArray := by
  apply Array.ext_getElem?
  intro i
  rw [setL_get' vs cs 0 i (by omega)]
  by_cases hi : i < vs.length
  · rw [if_pos (by omega)]; simp
  · rw [if_neg (by omega), Array.getElem?_eq_none (by omega)]; simp; omega
theorem Stored.whole {w w2 : World} {b : Nat} {vs : List Value} {cs : Array Value} {T : TypeId} (hst : Stored w b 0 vs w2) (h : Obj1 w b cs T) (hl : vs.length = cs.size) : Obj1 w2 b vs.toArray T := by
  have := hst.obj h; rwa [setL_full' _ _ hl] at this
/-- A whole struct is stored over another. -/
theorem store_o {P : Program} {ops : Array Oper} {rest : List Oper} {op : Oper} {a : Act} {w : World} {Q : Exit → Act → World → Prop} (hgd : op.guard = none) (ty : TypeId) (n : Nat) (x y : Operand) (ho : op.op = .store ty x y)
    (b : Nat) (YS : List Value) (hl : YS.length = n) (h1 : YS.all (·.oneCell') = true) (hx : a.eval x = .pointer (some ⟨b, 0, none⟩)) (hy : a.eval y = .agg YS.toArray) (hi : (P.info? ty).map (·.size) = some n) {cs : Array Value} {T : TypeId} (hO : Obj1 w b cs T) (hs : cs.size = n)
    (h : ∀ w2, Stored w b 0 YS w2 → Obj1 w2 b YS.toArray T → wpList P ops Q rest (a.put op.dst undef) w2) : wpList P ops Q (op :: rest) a w :=
  store_gen hgd ty x y ho b 0 YS.toArray hx hy (by have := hO.there 0 n (by omega); simpa [hl] using this) (by rw [List.size_toArray, hl]; exact hi) (by simpa using h1)
    fun w2 hst => h w2 (by simpa using hst) ((show Stored w b 0 YS w2 by simpa using hst).whole hO (by omega))
end Go.Proofs.Ytlhcjnjajkfahaa

namespace Go.Proofs.Ytlhcjnjajkfahaa
open Go.RowKit
set_option linter.unusedVariables false
/-- What a ledger holds: its budget, what is counted, its first refusal. -/
structure Led where
  mw : Int
  mh : Int
  mb : Int
  mx : Int
  bt : Int
  pk : Int
  st : Int
  br : Bool
  rs : Int
  ak : Int
def bi (b : Bool) : Int := if b then 1 else 0
def Led.cells (s : Led) : Array Value := #[.int .i64 s.mw, .int .i64 s.mh, .int .i64 s.mb, .int .i64 s.mx, .int .i64 s.bt, .int .i64 s.pk, .int .i64 s.st, .int .u32 (bi s.br), .int .u32 (bi s.br), .int .i32 0, .int .u32 0, .int .i64 s.rs, .int .i64 s.ak]
structure Led.ok (s : Led) : Prop where
  b0 : 0 ≤ s.bt
  b1 : s.bt ≤ s.mb
  b2 : s.mb ≤ 9223372036854775807
  s0 : 0 ≤ s.st
  s1 : s.st ≤ s.mx
  s2 : s.mx ≤ 9223372036854775807
structure LedAt (w : World) (L : Nat) (s : Led) : Prop where
  obj : Obj1 w L s.cells 148
  ok : s.ok
theorem LedAt.lt {w : World} {L : Nat} {s : Led} (h : LedAt w L s) : L < w.heap.size := h.obj.lt
def Led.refuse (s : Led) (r n : Int) : Led := { s with br := true, rs := r, ak := n }
/-- Steps that are done, if they fit. -/
def Led.work (s : Led) (n : Int) : Led × Bool := if s.br = true then (s, false) else if n < 0 ∨ s.mx - s.st < n then (s.refuse 3 n, false) else ({ s with st := s.st + n }, true)
/-- A new ledger. -/
def Led.new (mw mh mb mk : Int) : Led := ⟨max mw 0, max mh 0, max mb 0, max mk 0, 0, 0, 0, false, 0, 0⟩
end Go.Proofs.Ytlhcjnjajkfahaa

namespace Go.Proofs.Ytlhcjnjajkfahaa
open Go.RowKit
set_option linter.unusedVariables false
/-- What a source holds: its ledger's block, its text, where it begins, where it ends, its place. -/
structure Sr where
  L : Nat
  s : ByteArray
  b : Nat
  e : Nat
  p : Nat
def Sr.cells (x : Sr) : Array Value := #[.pointer (some ⟨x.L, 0, none⟩), .string x.s, .int .i64 x.b, .int .i64 x.e, .int .i64 x.p]
structure Sr.ok (x : Sr) : Prop where
  bp : x.b ≤ x.p
  pe : x.p ≤ x.e
  es : x.e ≤ x.s.size
  sz : x.s.size ≤ 9223372036854775807
structure SrcAt (w : World) (X : Nat) (x : Sr) : Prop where
  obj : Obj1 w X x.cells 99
  ok : x.ok
  ne : X ≠ x.L
theorem SrcAt.lt {w : World} {X : Nat} {x : Sr} (h : SrcAt w X x) : X < w.heap.size := h.obj.lt
theorem SrcAt.c0 {w : World} {X : Nat} {x : Sr} (h : SrcAt w X x) : w.cell? ⟨X, 0, none⟩ = some (.pointer (some ⟨x.L, 0, none⟩)) := (h.obj.cell 0).trans rfl
theorem SrcAt.c1 {w : World} {X : Nat} {x : Sr} (h : SrcAt w X x) : w.cell? ⟨X, 1, none⟩ = some (.string x.s) := (h.obj.cell 1).trans rfl
theorem SrcAt.c2 {w : World} {X : Nat} {x : Sr} (h : SrcAt w X x) : w.cell? ⟨X, 2, none⟩ = some (.int .i64 x.b) := (h.obj.cell 2).trans rfl
theorem SrcAt.c3 {w : World} {X : Nat} {x : Sr} (h : SrcAt w X x) : w.cell? ⟨X, 3, none⟩ = some (.int .i64 x.e) := (h.obj.cell 3).trans rfl
theorem SrcAt.c4 {w : World} {X : Nat} {x : Sr} (h : SrcAt w X x) : w.cell? ⟨X, 4, none⟩ = some (.int .i64 x.p) := (h.obj.cell 4).trans rfl
theorem SrcAt.f4 {w : World} {X : Nat} {x : Sr} (h : SrcAt w X x) : w.frozen? ⟨X, 4, none⟩ = false := h.obj.frozen 4
theorem SrcAt.drewN {w : World} {X : Nat} {x : Sr} (h : SrcAt w X x) (n : Nat) : SrcAt (w.drewN n) X x := ⟨h.obj.drewN n, h.ok, h.ne⟩
theorem LedAt.drewN {w : World} {X : Nat} {x : Led} (h : LedAt w X x) (n : Nat) : LedAt (w.drewN n) X x := ⟨h.obj.drewN n, h.ok⟩
theorem SrcAt.put {w : World} {X : Nat} {x : Sr} (h : SrcAt w X x) (p : Nat) (h1 : x.b ≤ p) (h2 : p ≤ x.e) : SrcAt (w.setCell ⟨X, 4, none⟩ (.int .i64 p)) X { x with p := p } := ⟨h.obj.set 4 _, ⟨h1, h2, h.ok.es, h.ok.sz⟩, h.ne⟩
theorem LedAt.put {w : World} {L X i : Nat} {l : Led} (h : LedAt w L l) (v : Value) (hn : L ≠ X) : LedAt (w.setCell ⟨X, i, none⟩ v) L l := ⟨h.obj.set_other _ _ hn, h.ok⟩
/-- A source and its ledger. -/
structure Pair (w : World) (X : Nat) (x : Sr) (l : Led) : Prop where
  src : SrcAt w X x
  led : LedAt w x.L l
abbrev two (X : Nat) (x : Sr) (k : Nat) : Prop := k = X ∨ k = x.L
/-- The next bytes, if they come. -/
def Sr.next (x : Sr) (l : Led) (n : Int) : (Sr × Led) × (ByteArray × Bool) :=
  if (l.work 1).2 = true ∧ 0 ≤ n ∧ n ≤ (x.e : Int) - x.p then (({ x with p := x.p + n.toNat }, (l.work 1).1), (x.s.extract x.p (x.p + n.toNat), true)) else ((x, (l.work 1).1), (ByteArray.empty, false))
/-! ### plain readers -/
end Go.Proofs.Ytlhcjnjajkfahaa

namespace Go.Proofs.Ytlhcjnjajkfahaa
open Go.RowKit
set_option linter.unusedVariables false
/-- The byte at a place. -/
def byN (s : ByteArray) (i : Nat) : Int := (s.data.toList.getD i 0).toNat
theorem byN_bd (s : ByteArray) (i : Nat) : 0 ≤ byN s i ∧ byN s i < 256 := by
  unfold byN; have := (s.data.toList.getD i 0).toNat_lt; omega
theorem byN_get (s : ByteArray) (i : Nat) (h : i < s.size) : ((s[i]).toNat : Int) = byN s i := by
  unfold byN
  rw [List.getD_eq_getElem?_getD, List.getElem?_eq_getElem (by simpa using h)]
  rfl
/-- The number of the first k bytes, the lowest first; the highest first. -/
def loK (s : ByteArray) : Nat → Int
  | 0 => 0
  | k + 1 => loK s k + byN s k * 2 ^ (8 * k)
theorem pow8 (k : Nat) : (2 : Int) ^ (8 * (k + 1)) = 256 * 2 ^ (8 * k) := by
  rw [show 8 * (k + 1) = 8 * k + 8 by omega, Int.pow_add]; have : (2 : Int) ^ 8 = 256 := by decide
  rw [this, Int.mul_comm]
theorem loK_bd (s : ByteArray) (k : Nat) : 0 ≤ loK s k ∧ loK s k < 2 ^ (8 * k) := by
  induction k with
  | zero => simp [loK]
  | succ k ih =>
    have hb := byN_bd s k
    have hp := pow_pos' (8 * k)
    have h0 : 0 ≤ byN s k * 2 ^ (8 * k) := Int.mul_nonneg hb.1 (by omega)
    have h1 : byN s k * 2 ^ (8 * k) ≤ 255 * 2 ^ (8 * k) := Int.mul_le_mul_of_nonneg_right (by omega) (by omega)
    rw [pow8, loK]; omega
theorem i64_wraps (n : Int) (h₀ : 0 ≤ n) (h₁ : n < 2 ^ 63) : IntKind.i64.wrap n = n := i64_wrap_id n h₀ h₁
theorem or_low (i : Nat) (v y : Int) (h0 : 0 ≤ v) (h1 : v < 2 ^ i) (hy : 0 ≤ y) (h2 : v + y * 2 ^ i < 2 ^ 62) : bits .or .i64 v (y * 2 ^ i) = v + y * 2 ^ i := by
  have hp := pow_pos' i
  have hm := Int.mul_nonneg hy (Int.le_of_lt hp)
  have h63 : (2 : Int) ^ 63 = 9223372036854775808 := by decide
  have h62 : (2 : Int) ^ 62 = 4611686018427387904 := by decide
  exact bits_join_low .i64 63 (by decide) i64_wraps i v _ h0 h1 (by omega) hm (Int.mul_emod_left _ _) (by omega)
theorem pow32 (k : Nat) (h : k ≤ 3) : (1 : Int) ≤ 2 ^ (8 * k) ∧ (2 : Int) ^ (8 * k) ≤ 16777216 := by
  have h1 := pow_pos' (8 * k)
  have h2 := pow_le' (show 8 * k ≤ 24 by omega)
  have h3 : (2 : Int) ^ 24 = 16777216 := by decide
  omega
/-! ### the document's numbers -/
theorem rle_any (s : ByteArray) (w : World) (hs : s.size ≤ 4) : Calls Try.prog 41 #[.string s] w fun e w' => e = .returned (.int .i64 (loK s s.size)) ∧ w = w' := by
  go_enter Try.func41, Try.ntmps41
  go_wp2
  go_loop [3, 4] (fun v i => ∃ k : Nat, ∃ V : Int, k ≤ s.size ∧ i = .int .i64 ((k : Int) - 1) ∧ v = .int .i64 V ∧ 0 ≤ V ∧ V < 2 ^ (8 * (s.size - k)) ∧ loK s s.size = loK s k + V * 2 ^ (8 * k)) (fun _ i => (intOf i + 1).toNat)
  case atStart => exact ⟨s.size, 0, by omega, rfl, rfl, by omega, by rw [Nat.sub_self]; decide, by omega⟩
  case round =>
    obtain ⟨k, V, hk, rfl, rfl, h0, h1, h2⟩ := hrel
    have H2 := Lib.hid h2
    have H1 := Lib.hid h1
    clear h2
    by_cases hlt : 1 ≤ k
    · obtain ⟨k, rfl⟩ : ∃ m, k = m + 1 := ⟨k - 1, by omega⟩
      have hb := byN_bd s k
      have hkl : k < s.size := by omega
      have hV : V ≤ 16777216 := by have := pow32 (s.size - (k + 1)) (by omega); omega
      have e1 : (((k + 1 : Nat) : Int) - 1) = (k : Int) := by omega
      rw [e1]
      clear h1 e1
      go_wp2
      go_round
      case rel =>
        refine ⟨k, V * 256 + byN s k, by omega, by go_num, ?_, by omega, ?_, ?_⟩
        · rw [byN_get s k hkl, IntWalk.wrap64_in (byN s k) (by omega), IntWalk.wrap64_in _ (by omega), Int.mul_comm]
        · rw [show s.size - k = (s.size - (k + 1)) + 1 by omega, pow8]; have := H1.out; omega
        · rw [H2.out, pow8, loK, Int.add_mul, Int.mul_assoc, Int.add_assoc, Int.add_comm (V * _)]
      case measure => simp [intOf]
    · obtain rfl : k = 0 := by omega
      have E := Lib.hid (show V = loK s s.size by rw [H2.out, loK]; simp)
      clear h1
      go_wp2
      go_ret
      exact ⟨ret_int E.out, rfl⟩
end Go.Proofs.Ytlhcjnjajkfahaa

namespace Go.Proofs.Ytlhcjnjajkfahaa
open Go.RowKit
set_option linter.unusedVariables false
/-- Four bytes with a sign. -/
def signed (v : Int) : Int := if 2147483648 ≤ v then v - 4294967296 else v
/-! ### windows -/
end Go.Proofs.Ytlhcjnjajkfahaa

namespace Go.Proofs.Ytlhcjnjajkfahaa
open Go.RowKit
set_option linter.unusedVariables false
set_option linter.unusedSimpArgs false
theorem ret_b {a b : Bool} (h : a = b) : Ending.returned (.bool a) = Ending.returned (.bool b) := by rw [h]
theorem ret_i {a b : Int} (h : a = b) : Ending.returned (.int .i64 a) = Ending.returned (.int .i64 b) := by rw [h]
end Go.Proofs.Ytlhcjnjajkfahaa

namespace Go.Proofs.Ytlhcjnjajkfahaa
open Go.RowKit
set_option linter.unusedVariables false
set_option linter.unusedSimpArgs false
structure Chk where
  x1 : Int
  kn : Bool
  pb : Bool
  th : Bool
  c7 : Bool
  C : Int
  W : Int
  H : Int
  dp : Bool
  f : Int
  al : Bool
def Chk.row (c : Chk) : Nat → Bool × Int × Int × Bool
  | 0 => (decide (1 < c.x1), 2, 1, false)
  | 1 => (!c.kn, 3, 2, false)
  | 2 => (c.pb && !c.th, 2, 1, false)
  | 3 => (c.th && !c.c7, 3, 7, false)
  | 4 => (c.th && c.C == 0, 2, 5, true)
  | 5 => (c.W == 0, 2, 12, false)
  | 6 => (decide (16384 < c.W), 3, 12, true)
  | 7 => (c.H == 0, 2, 14, false)
  | 8 => (decide (16384 < c.H), 3, 14, true)
  | 9 => (!c.dp, 3, 16, false)
  | 10 => (c.f / 64 != 0, 3, 17, true)
  | 11 => (!c.al, 2, 17, true)
  | _ => (false, 0, 0, false)
/-- The first row that is wrong: its kind and place. -/
def Chk.from (c : Chk) : Nat → Nat → Option (Int × Int)
  | 0, _ => none
  | n + 1, i => if (c.row i).1 = true then some ((c.row i).2.1, (c.row i).2.2.1) else c.from n (i + 1)
def Chk.first (c : Chk) : Option (Int × Int) := c.from 12 0
def Chk.isFrom (c : Chk) : Nat → Nat → Bool
  | 0, _ => true
  | n + 1, i => if ((c.row i).1 && !(c.row i).2.2.2) = true then false else c.isFrom n (i + 1)
def Chk.is (c : Chk) : Bool := c.isFrom 12 0
theorem byN_ext (s : ByteArray) (a b i : Nat) (h : a + i < b) (hb : b ≤ s.size) : byN (s.extract a b) i = byN s (a + i) := by
  have h1 : i < (s.extract a b).size := by rw [ByteArray.size_extract]; omega
  rw [← byN_get (s.extract a b) i h1, ← byN_get s (a + i) (by omega), ByteArray.getElem_extract]
end Go.Proofs.Ytlhcjnjajkfahaa

namespace Go
/-- The frame is forgotten but for one slot: what 'return' needs. -/
theorem gen_frame {P : Program} {ops : Array Oper} {Q : Exit → Act → World → Prop} {a : Act} {w : World} (p : Nat) (v : Value) (hv : a.tmps.getD p undef = v) (hd : a.defers = [])
    (h : ∀ A : Act, A.tmps.getD p undef = v → A.defers = [] → wpList P ops Q [] A w) : wpList P ops Q [] a w := h a hv hd
end Go

namespace Go.Proofs.Ytlhcjnjajkfahaa
open Go.RowKit
set_option linter.unusedVariables false
set_option linter.unusedSimpArgs false
def RA (w : World) (L : List Value) (e : Ending) (w' : World) : Prop := e = .returned (.agg L.toArray) ∧ Below w.heap.size w w'
end Go.Proofs.Ytlhcjnjajkfahaa

namespace Go.Proofs.Ytlhcjnjajkfahaa
open Go.RowKit
set_option linter.unusedVariables false
set_option linter.unusedSimpArgs false
theorem Pair.into {w w2 : World} {X b o : Nat} {vs : List Value} {x : Sr} {l : Led} (h : Pair w X x l) (hst : Stored w b o vs w2) (h1 : X ≠ b) (h2 : x.L ≠ b) : Pair w2 X x l :=
  ⟨⟨hst.oth h.src.obj h1, h.src.ok, h.src.ne⟩, ⟨hst.oth h.led.obj h2, h.led.ok⟩⟩
theorem Pair.upon {B : Nat} {w w' : World} {X : Nat} {x : Sr} {l : Led} (h : Pair w X x l) (hb : Below B w w') (h1 : X < B) (h2 : x.L < B) : Pair w' X x l := ⟨⟨h.src.obj.below hb h1, h.src.ok, h.src.ne⟩, ⟨h.led.obj.below hb h2, h.led.ok⟩⟩
def faultL (x : Sr) (l : Led) (f : Int) : List Value := if l.br = true then [.int .i64 4, .int .i64 f, .int .i64 x.p] else [.int .i64 1, .int .i64 f, .int .i64 x.e]
end Go.Proofs.Ytlhcjnjajkfahaa

namespace Go.Proofs.Ytlhcjnjajkfahaa
open Go.RowKit
set_option linter.unusedVariables false
theorem rsigned_any (s : ByteArray) (w : World) (hs : s.size ≤ 4) : Calls Try.prog 43 #[.string s] w fun e w' => e = .returned (.int .i64 (signed (loK s s.size))) ∧ w = w' := by
  have hb := loK_bd s s.size
  have hp := pow_le' (show 8 * s.size ≤ 32 by omega)
  have h32 : (2 : Int) ^ 32 = 4294967296 := by decide
  have HL := Lib.hid (fun w0 => rle_any s w0 hs)
  unfold signed
  obtain ⟨v, hv⟩ : ∃ v, loK s s.size = v := ⟨_, rfl⟩
  rw [hv] at HL hb ⊢
  have v0 : 0 ≤ v := hb.1
  have v1 : v < 4294967296 := by omega
  clear hb hp h32 hv hs
  by_cases h : 2147483648 ≤ v
  · rw [if_pos h]
    go_enter Try.func43, Try.ntmps43
    go_wp2_with (go_at_call 41; (with_reducible refine (HL.out _).mono ?_); rintro e w1 ⟨rfl, rfl⟩)
    go_ret
    exact ⟨rfl, rfl⟩
  · rw [if_neg h]
    have h' : v < 2147483648 := by omega
    go_enter Try.func43, Try.ntmps43
    go_wp2_with (go_at_call 41; (with_reducible refine (HL.out _).mono ?_); rintro e w1 ⟨rfl, rfl⟩)
    go_ret
    exact ⟨rfl, rfl⟩
end Go.Proofs.Ytlhcjnjajkfahaa

namespace Go.Proofs.Ytlhcjnjajkfahaa
open Go.RowKit
set_option linter.unusedVariables false
set_option linter.unusedSimpArgs false
/-- .. of an operation that is guarded, and wanted. -/
theorem load_og {P : Program} {ops : Array Oper} {rest : List Oper} {op : Oper} {a : Act} {w : World} {Q : Exit → Act → World → Prop} (hw : Region.wanted op (yielded ops a.tmps) = true) (ty : TypeId) (n : Nat) (x : Operand) (ho : op.op = .load ty x)
    (b : Nat) (YS : List Value) (hl : YS.length = n) (hx : a.eval x = .pointer (some ⟨b, 0, none⟩)) {T : TypeId} (hO : Obj1 w b YS.toArray T) {d : TypeDesc} (hu : P.underlying ty = some d) (hd : d.isRow = true) (hi : (P.info? ty).map (·.size) = some n)
    (h : wpList P ops Q rest (a.put op.dst (.agg YS.toArray)) w) : wpList P ops Q (op :: rest) a w := by
  rw [wpList, if_pos hw]
  exact Or.inl (wp_load_mid ty x ho b 0 hx YS d hO.range0 hu hd (by rw [hl]; exact hi) h)
end Go.Proofs.Ytlhcjnjajkfahaa

namespace Go.Proofs.Ytlhcjnjajkfahaa
open Go.RowKit
set_option linter.unusedVariables false
theorem Obj1.range {w : World} {b : Nat} {cs : Array Value} {T : TypeId} (h : Obj1 w b cs T) (o : Nat) (L : List Value) (hL : (cs.toList.drop o).take L.length = L) : w.rangeAt b o L := fun j v hv => by
  rw [h.cell]
  rw [← hL, List.getElem?_take] at hv
  split at hv
  · rw [List.getElem?_drop] at hv; simpa using hv
  · cases hv
/-- An operation whose guard says no is passed over. -/
theorem skip_g {P : Program} {ops : Array Oper} {rest : List Oper} {op : Oper} {a : Act} {w : World} {Q : Exit → Act → World → Prop} {g : Nat × Bool} (hg : op.guard = some g) (hw : Region.wanted op (yielded ops a.tmps) = false) (h : Unit → wpList P ops Q rest (a.put op.dst undef) w) : wpList P ops Q (op :: rest) a w := by
  rw [wpList, if_neg (by simp [hw])]; exact h ()
theorem load_u {P : Program} {ops : Array Oper} {rest : List Oper} {op : Oper} {a : Act} {w : World} {Q : Exit → Act → World → Prop} (hw : Region.wanted op (yielded ops a.tmps) = true) (ty : TypeId) (n : Nat) (x : Operand) (ho : op.op = .load ty x)
    (b : Nat) (YS : List Value) (hl : YS.length = n) (hx : a.eval x = .pointer (some ⟨b, 0, none⟩)) {T : TypeId} (hO : Obj1 w b YS.toArray T) {d : TypeDesc} (hu : P.underlying ty = some d) (hd : d.isRow = true) (hi : (P.info? ty).map (·.size) = some n)
    (h : Unit → wpList P ops Q rest (a.put op.dst (.agg YS.toArray)) w) : wpList P ops Q (op :: rest) a w := load_og hw ty n x ho b YS hl hx hO hu hd hi (h ())
theorem Obj1.cells {w : World} {b : Nat} {cs cs' : Array Value} {T : TypeId} (h : Obj1 w b cs T) (e : cs = cs') : Obj1 w b cs' T := e ▸ h
theorem Pair.alloc {w : World} {X : Nat} {x : Sr} {l : Led} (h : Pair w X x l) (o : Obj) : Pair (w.alloc o) X x l :=
  h.upon ((Below.refl w.heap.size w).alloc (Nat.le_refl _) o) h.src.lt h.led.lt
end Go.Proofs.Ytlhcjnjajkfahaa


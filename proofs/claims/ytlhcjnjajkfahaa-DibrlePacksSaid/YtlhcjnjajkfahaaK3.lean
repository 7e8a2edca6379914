/- dibrle.Pack: arguments that are wrong; any arguments. -/
import Derived.Test.YtlhcjnjajkfahaaK2
import Derived.Test.YtlhcjnjajkfahaaProg
import Derived.Test.YtlhcjnjajkfahaaK0
import Derived.Deep.RegionHeld3
import Derived.Deep.AppendLies
import Derived.Deep.RegionLaw
import Derived.OrdersHeld
import Derived.Deep.RegionHeld
import Derived.Deep.CutRange
import Derived.Shelf.Bits.Mul64
namespace Go.Proofs.Ytlhcjnjajkfahaa
open Go.RowKit
set_option linter.unusedVariables false
set_option linter.unusedSimpArgs false
def rleArg (n : Nat) (w d : Int) : Prop := w < 1 ∨ 16384 < w ∨ (d ≠ 4 ∧ d ≠ 8) ∨ n = 0 ∨ n % w.toNat ≠ 0
set_option maxRecDepth 100000 in
set_option maxHeartbeats 4000000 in
theorem epack_arg (a : Option Addr) (n cap : Nat) (wd d : Int) (w : World) (hn : n ≤ 100000000) (h : rleArg n wd d) : Calls Try.prog 12 #[.slice a n cap, .int .i64 wd, .int .i64 d] w (Packs w (ByteArray.empty, 1)) := by
  by_cases h1 : wd < 1
  · have D1 : decide (wd < 1) = true := by rw [decide_eq_true_iff]; exact h1
    clear h h1
    go_enter Try.func12, Try.ntmps12
    go_wp2_with ((with_reducible refine skip_g rfl ?_ ?_); rfl; intro _)
    go_ret2
    exact ⟨rfl, Below.refl _ _⟩
  have D1 : decide (wd < 1) = false := by rw [decide_eq_false_iff_not]; exact h1
  by_cases h2 : wd > 16384
  · have D2 : decide (wd > 16384) = true := by rw [decide_eq_true_iff]; exact h2
    clear h h1 h2
    go_enter Try.func12, Try.ntmps12
    go_wp2_with ((with_reducible refine skip_g rfl ?_ ?_); rfl; intro _)
    go_ret2
    exact ⟨rfl, Below.refl _ _⟩
  have D2 : decide (wd > 16384) = false := by rw [decide_eq_false_iff_not]; exact h2
  obtain ⟨W, rfl⟩ := Int.eq_ofNat_of_zero_le (show 0 ≤ wd by omega)
  by_cases h3 : d ≠ 4 ∧ d ≠ 8
  · have e4 : (d != 4) = true := by rw [bne_iff_ne]; exact h3.1
    have e8 : (d != 8) = true := by rw [bne_iff_ne]; exact h3.2
    clear h h1 h2 h3
    go_enter Try.func12, Try.ntmps12
    go_wp2_with ((with_reducible refine skip_g rfl ?_ ?_); rfl; intro _)
    go_ret2
    exact ⟨rfl, Below.refl _ _⟩
  have hd : d = 4 ∨ d = 8 := by omega
  by_cases h4 : n = 0
  · subst h4
    clear h h1 h2 h3
    rcases hd with rfl | rfl
    all_goals
      go_enter Try.func12, Try.ntmps12
      go_wp2_with ((with_reducible refine skip_g rfl ?_ ?_); rfl; intro _)
      go_ret2
      exact ⟨rfl, Below.refl _ _⟩
  have hm : n % W ≠ 0 := by
    unfold rleArg at h
    rcases h with h | h | h | h | h
    · omega
    · omega
    · exact absurd h h3
    · exact absurd h h4
    · simpa using h
  have D5 : ((n : Int) == 0) = false := by rw [beq_eq_false_iff_ne]; omega
  have hW0 : ¬ W = 0 := by omega
  have hm1 : n % W < W := Nat.mod_lt _ (by omega)
  have hmI : ((n : Int) % (W : Int) != 0) = true := by
    have e : ((n : Int) % (W : Int)) = ((n % W : Nat) : Int) := by rw [Int.natCast_emod]
    rw [e, bne_iff_ne]; omega
  obtain ⟨r, hr⟩ : ∃ r : Int, (n : Int) % (W : Int) = r := ⟨_, rfl⟩
  rw [hr] at hmI
  clear h h1 h2 h3 h4 hm hm1
  rcases hd with rfl | rfl
  all_goals
    go_enter Try.func12, Try.ntmps12
    go_wp2_with ((with_reducible refine skip_g rfl ?_ ?_); rfl; intro _)
    go_ret2
    exact ⟨rfl, Below.refl _ _⟩
/-- What Pack answers. -/
def rleI (l : List Int) (w d : Int) : ByteArray × Int := if w < 1 ∨ 16384 < w ∨ (d ≠ 4 ∧ d ≠ 8) ∨ l.length = 0 ∨ l.length % w.toNat ≠ 0 then (ByteArray.empty, 1) else if ∀ i, i < l.length → 0 ≤ l.getD i 0 ∧ l.getD i 0 < 2 ^ d.toNat then (strOf (encA l w.toNat d 0), 0) else (ByteArray.empty, 2)
theorem epack_any (l : List Int) (B o cap : Nat) (wd d : Int) (w : World) (hB : B < w.heap.size) (hn : l.length ≤ 100000000) (hcap : l.length ≤ cap) (hcm : cap ≤ maxLen) (hc : ∀ i, i < l.length → w.cell? ⟨B, o + i, none⟩ = some (.int .i64 (l.getD i 0))) :
    Calls Try.prog 12 #[.slice (some ⟨B, o, none⟩) l.length cap, .int .i64 wd, .int .i64 d] w (Packs w (rleI l wd d)) := by
  unfold rleI
  by_cases h : rleArg l.length wd d
  · have h' := h
    unfold rleArg at h'
    rw [if_pos h']; exact epack_arg _ _ _ _ _ w hn h
  · unfold rleArg at h
    rw [if_neg h]
    obtain ⟨W, rfl⟩ := Int.eq_ofNat_of_zero_le (show 0 ≤ wd by omega)
    have hm : l.length % W = 0 := by
      rcases Nat.eq_zero_or_pos (l.length % W) with e | e
      · exact e
      · exact absurd (Or.inr (Or.inr (Or.inr (Or.inr (by simp; omega))))) h
    have hl : l.length ≠ 0 := fun e => h (Or.inr (Or.inr (Or.inr (Or.inl e))))
    have hW : 1 ≤ W := by omega
    have e := Nat.div_add_mod l.length W
    rw [hm, Nat.add_zero, Nat.mul_comm] at e
    refine epack_go l B o cap W (l.length / W) d w hB hn hcap hcm hW (by omega) (by omega) e.symm ?_ hc
    rcases Nat.eq_zero_or_pos (l.length / W) with e0 | e0
    · rw [e0, Nat.zero_mul] at e; omega
    · exact e0
end Go.Proofs.Ytlhcjnjajkfahaa

namespace Go.Proofs.Ytlhcjnjajkfahaa
open Go.RowKit

/-! ### Find -/
/-- How many bits of a number are 0 before the first that is 1; how many are 1 before the first that is 0. -/
def tzF : Nat → Int → Nat
  | 0, _ => 0
  | f + 1, w => if w % 2 = 0 then tzF f (w / 2) + 1 else 0
def toF : Nat → Int → Nat
  | 0, _ => 0
  | f + 1, w => if w % 2 = 1 then toF f (w / 2) + 1 else 0
def fS (w : Int) : Nat := tzF 32 w
def fB (w : Int) : Nat := toF 32 (w / 2 ^ fS w)
end Go.Proofs.Ytlhcjnjajkfahaa

namespace Go.Proofs.Ytlhcjnjajkfahaa
open Go.RowKit
/-! ### the references -/
theorem rbit_any (v i : Int) (w : World) (h0 : 0 ≤ i) (h1 : i ≤ 62) : Calls Try.prog 123 #[.int .i64 v, .int .i64 i] w fun e w' => e = .returned (.bool (bitB v i.toNat)) ∧ w = w' := by
  have E := Lib.hid (show (bits BinOp.and IntKind.i64 (v / 2 ^ i.toNat) 1 == 1) = bitB v i.toNat by rw [i64_and_one]; unfold bitB; by_cases h : v / 2 ^ i.toNat % 2 = 1 <;> simp [h])
  go_enter Try.func123, Try.ntmps123
  go_wp2
  go_ret
  exact ⟨ret_bool E.out, rfl⟩
theorem power_any (n : Int) (w : World) (h0 : 0 ≤ n) (h1 : n ≤ 62) : Calls Try.prog 13 #[.int .i64 n] w fun e w' => e = .returned (.int .i64 (2 ^ n.toNat)) ∧ w = w' := by
  obtain ⟨n, rfl⟩ := Int.eq_ofNat_of_zero_le h0
  go_enter Try.func13, Try.ntmps13
  go_wp2
  go_loop [3, 4] (fun v i => ∃ k : Nat, k ≤ n ∧ i = .int .i64 k ∧ v = .int .i64 (2 ^ k)) (fun _ i => n - (intOf i).toNat)
  case atStart => exact ⟨0, by omega, rfl, rfl⟩
  case round =>
    obtain ⟨k, hk, rfl, rfl⟩ := hrel
    by_cases hlt : k < n
    · have hb := pow_le' (show k ≤ 61 by omega)
      have hp := pow_pos' k
      go_wp2
      go_round
      case rel => exact ⟨k + 1, by omega, by go_num, by rw [pow_succ']⟩
      case measure => simp [intOf]; omega
    · obtain rfl : k = n := by omega
      go_wp2
      go_ret
      exact ⟨by simp, rfl⟩
end Go.Proofs.Ytlhcjnjajkfahaa

namespace Go.Proofs.Ytlhcjnjajkfahaa
open Go.RowKit
set_option linter.unusedVariables false
set_option linter.unusedSimpArgs false
def Yes22 (w : World) (e : Ending) (w' : World) : Prop := e = .returned (.bool true) ∧ Below w.heap.size w w'
theorem rle_ex : rleI [5, 5, 5] 3 8 = (⟨#[3, 5, 0, 0, 0, 1]⟩, 0) := by decide +kernel
theorem epack_ex (w : World) (T : TypeId) : Calls Try.prog 12 #[.slice (some ⟨w.heap.size, 0, none⟩) 3 3, .int .i64 3, .int .i64 8] (w.alloc (.cells #[.int .i64 5, .int .i64 5, .int .i64 5] T)) fun e w' => e = .returned (.tuple #[.string ⟨#[3, 5, 0, 0, 0, 1]⟩, .int .i64 0]) ∧ Below w.heap.size w w' :=
  (epack_any [5, 5, 5] w.heap.size 0 3 3 8 _ (by simp) (by decide) (by decide) (by decide) (by
    intro i hi
    rcases (show i = 0 ∨ i = 1 ∨ i = 2 by simp at hi; omega) with rfl | rfl | rfl <;> simp [go_sem])).mono fun e w' hh => by
      obtain ⟨h1, h2⟩ := hh
      rw [rle_ex] at h1
      exact ⟨h1, bthen h2 ((Below.refl _ _).alloc (Nat.le_refl _) _) (by simp)⟩
theorem awake22 (w : World) : Calls Try.prog 11 #[] w (Yes22 w) := by
  go_enter Try.func11, Try.ntmps11
  go_wp2_with (go_at_call 12; (with_reducible refine (epack_ex _ _).mono ?_); rintro e w1 ⟨rfl, hb1⟩)
  go_ret
  exact ⟨rfl, hb1⟩
theorem size10_4 (w : World) : Calls Try.prog 84 #[.int .i64 4] w fun e w' => e = .returned (.int .i64 4) ∧ w' = w := by
  go_enter Try.func84, Try.ntmps84
  go_wp2
  go_ret
  exact ⟨rfl, rfl⟩
theorem size10_3 (w : World) : Calls Try.prog 84 #[.int .i64 3] w fun e w' => e = .returned (.int .i64 3) ∧ w' = w := by
  go_enter Try.func84, Try.ntmps84
  go_wp2
  go_ret
  exact ⟨rfl, rfl⟩
/-- A pixel's number, of a byte. -/
def entR (b d : Int) (i : Nat) : Int := if d = 8 then b else if i % 2 = 0 then b / 16 else b % 16
theorem entry22_any (b d : Int) (i : Nat) (w : World) (h0 : 0 ≤ b) (h1 : b < 256) : Calls Try.prog 87 #[.int .u8 b, .int .i64 d, .int .i64 i] w fun e w' => e = .returned (.int .i64 (entR b d i)) ∧ w' = w := by
  have eC : IntKind.i64.wrap b = b := i64_wraps _ (by omega) (by omega)
  by_cases h8 : d = 8
  · have E := Lib.hid (show entR b d i = b by unfold entR; rw [if_pos h8])
    have hd : (d == 8) = true := by rw [h8]; rfl
    clear h8
    go_enter Try.func87, Try.ntmps87
    go_wp2
    go_ret
    exact ⟨ret_i E.out.symm, rfl⟩
  have hd : (d == 8) = false := by rw [beq_eq_false_iff_ne]; exact h8
  by_cases h2 : i % 2 = 0
  · have E := Lib.hid (show entR b d i = b / 16 by unfold entR; rw [if_neg h8, if_pos h2])
    have hi : ((i : Int) % 2 == 0) = true := by rw [beq_iff_eq]; omega
    clear h8 h2
    go_enter Try.func87, Try.ntmps87
    go_wp2
    go_ret
    exact ⟨ret_i E.out.symm, rfl⟩
  · have E := Lib.hid (show entR b d i = b % 16 by unfold entR; rw [if_neg h8, if_neg h2])
    have hi : ((i : Int) % 2 == 0) = false := by rw [beq_eq_false_iff_ne]; omega
    clear h8 h2
    go_enter Try.func87, Try.ntmps87
    go_wp2
    go_ret
    exact ⟨ret_i E.out.symm, rfl⟩
def bad13 (k a : Int) : List Value := [.int .i64 0, .int .i64 0, .slice none 0 0, .int .i64 k, .int .i64 a]
theorem bad13_any (k a : Int) (w : World) : Calls Try.prog 48 #[.int .i64 k, .int .i64 a] w fun e w' => e = .returned (.agg (List.toArray (bad13 k a))) ∧ Below w.heap.size w w' := by
  go_enter Try.func48, Try.ntmps48
  go_wp2
  refine bodyPost_ret (v := .agg (List.toArray (bad13 k a))) ?_ rfl ⟨rfl, (Below.refl _ _).alloc (Nat.le_refl _) _⟩
  exact results_c Try.results48 _ _ _ (bad13 k a) _ rfl (Obj1.range0 (cs := (bad13 k a)) (obj1_new w _ _)) Try.underlying38 rfl (by kernel_rfl)
end Go.Proofs.Ytlhcjnjajkfahaa

namespace Go.Proofs.Ytlhcjnjajkfahaa
open Go.RowKit
set_option linter.unusedVariables false
theorem owns_blk {w : World} {base e size n : Nat} {v : Value} {xs : List Value} (h : w.ownsRow base e size v n xs) {g : Nat} (hg : v.ownBlock = some g) : base ≤ g ∧ g < w.heap.size := by
  obtain ⟨h1, h2⟩ := h
  rcases h2 with ⟨rfl, _⟩ | ⟨g', cap, cur, rfl, hb, hg', _⟩
  · simp [Value.ownBlock] at hg
  · have : g' = g := by simpa [Value.ownBlock] using hg
    subst this
    exact ⟨hb, (Array.getElem?_eq_some_iff.1 hg').1⟩
theorem Chg.after {S S' : Nat → Prop} {a b c : World} (h : Chg S a b) (k : Chg S' b c) (hS : ∀ n, n < a.heap.size → S' n → S n) : Chg S a c :=
  ⟨k.os.trans h.os, k.tape.trans h.tape, k.output.trans h.output, Nat.le_trans h.size k.size, fun n hn hs => (k.block n (Nat.lt_of_lt_of_le hn h.size) (fun h' => hs (hS n hn h'))).trans (h.block n hn hs)⟩
theorem owns_drew2 {w : World} {base e size n : Nat} {v : Value} {xs : List Value} (h : w.ownsRow base e size v n xs) : w.drew.ownsRow base e size v n xs := h
/-- A struct is loaded off cells that came in. -/
theorem load_r {P : Program} {ops : Array Oper} {rest : List Oper} {op : Oper} {a : Act} {w : World} {Q : Exit → Act → World → Prop} (hgd : op.guard = none) (ty : TypeId) (x : Operand) (ho : op.op = .load ty x)
    (b o : Nat) (YS : List Value) (hx : a.eval x = .pointer (some ⟨b, o, none⟩)) (hR : w.rangeAt b o YS) {d : TypeDesc} (hu : P.underlying ty = some d) (hd : d.isRow = true) (hi : (P.info? ty).map (·.size) = some YS.length)
    (h : Unit → wpList P ops Q rest (a.put op.dst (.agg YS.toArray)) w) : wpList P ops Q (op :: rest) a w := wpList_load_mid hgd ty x ho b o hx YS d hR hu hd hi (h ())
theorem range_below {w w' : World} {B b o : Nat} {L : List Value} (h : w.rangeAt b o L) (hb : Below B w w') (hlt : b < B) : w'.rangeAt b o L := fun j v hv => (World.cell?_of_block (w := w) (hb.block b hlt)).trans (h j v hv)
end Go.Proofs.Ytlhcjnjajkfahaa

namespace Go.Proofs.Ytlhcjnjajkfahaa
open Go.RowKit
set_option linter.unusedVariables false
set_option linter.unusedSimpArgs false
/-- k bytes from a place on, the lowest first. -/
def lowK (s : ByteArray) (a : Nat) : Nat → Int
  | 0 => 0
  | k + 1 => lowK s a k + byN s (a + k) * 2 ^ (8 * k)
theorem lowK_bd (s : ByteArray) (a k : Nat) : 0 ≤ lowK s a k ∧ lowK s a k < 2 ^ (8 * k) := by
  induction k with
  | zero => simp [lowK]
  | succ k ih =>
    have hb := byN_bd s (a + k)
    have hp := pow_pos' (8 * k)
    have h0 : 0 ≤ byN s (a + k) * 2 ^ (8 * k) := Int.mul_nonneg hb.1 (by omega)
    have h1 : byN s (a + k) * 2 ^ (8 * k) ≤ 255 * 2 ^ (8 * k) := Int.mul_le_mul_of_nonneg_right (by omega) (by omega)
    rw [pow8, lowK]; omega
/-- .. are those of a part of the text. -/
theorem lowK_lo (s : ByteArray) (a b k : Nat) (h : a + k ≤ b) (hb : b ≤ s.size) : loK (s.extract a b) k = lowK s a k := by
  induction k with
  | zero => rfl
  | succ k ih => rw [loK, lowK, ih (by omega), byN_ext s a b k (by omega) hb]
end Go.Proofs.Ytlhcjnjajkfahaa

namespace Go.Proofs.Ytlhcjnjajkfahaa
open Go.RowKit
set_option linter.unusedVariables false
set_option linter.unusedSimpArgs false
def headsB (n : Int) : Bool := n == 12 || (n == 40 || (n == 52 || (n == 56 || (n == 108 || n == 124))))
def knownH (n : Int) : Bool := headsB n || (n == 16 || n == 64)
def dpB (n : Int) (more : Bool) : Bool := (n == 1 || (n == 4 || (n == 8 || n == 24))) || ((n == 16 || n == 32) && more)
def fitsB (m n : Int) : Bool := if m = 1 then n == 8 else if m = 2 then n == 4 else if m = 3 then n == 16 || n == 32 else true
def mostI (n : Int) : Int := if n ≤ 8 then 2 ^ n.toNat else 256
theorem eqf {a b : Int} (h : ¬ a = b) : (a == b) = false := by simpa using h
theorem rdepth_any (n : Int) (w : World) : Calls Try.prog 45 #[.int .i64 n] w fun e w' => e = .returned (.bool (dpB n true)) ∧ w' = w := by
  by_cases h1 : n = 1
  · subst h1
    go_enter Try.func45, Try.ntmps45
    go_wp2; go_ret; exact ⟨rfl, rfl⟩
  by_cases h2 : n = 4
  · subst h2
    go_enter Try.func45, Try.ntmps45
    go_wp2; go_ret; exact ⟨rfl, rfl⟩
  by_cases h3 : n = 8
  · subst h3
    go_enter Try.func45, Try.ntmps45
    go_wp2; go_ret; exact ⟨rfl, rfl⟩
  by_cases h4 : n = 16
  · subst h4
    go_enter Try.func45, Try.ntmps45
    go_wp2; go_ret; exact ⟨rfl, rfl⟩
  by_cases h5 : n = 24
  · subst h5
    go_enter Try.func45, Try.ntmps45
    go_wp2; go_ret; exact ⟨rfl, rfl⟩
  have e1 := eqf h1
  have e2 := eqf h2
  have e3 := eqf h3
  have e4 := eqf h4
  have e5 := eqf h5
  obtain ⟨b6, e6⟩ : ∃ b, (n == 32) = b := ⟨_, rfl⟩
  have E := Lib.hid (show dpB n true = b6 by unfold dpB; rw [e1, e2, e3, e4, e5, e6]; simp)
  clear h1 h2 h3 h4 h5
  go_enter Try.func45, Try.ntmps45
  go_wp2_with ((with_reducible refine skip_g rfl ?_ ?_); rfl; intro _)
  go_ret
  exact ⟨ret_b E.out.symm, rfl⟩
end Go.Proofs.Ytlhcjnjajkfahaa

namespace Go.Proofs.Ytlhcjnjajkfahaa
open Go.RowKit
set_option linter.unusedVariables false
set_option linter.unusedSimpArgs false
abbrev Fnd := Bool × Int × Int
/-- The first row that is wrong. -/
def firstW : List Fnd → Fnd × Bool
  | [] => ((false, 0, 0), false)
  | r :: t => if r.1 = true then (r, true) else firstW t
def sidesF (W H a b : Int) : List Fnd := [(decide (W ≤ 0), 2, a), (decide (W > 16384), 3, a), (H == 0, 2, b), (decide (H > 16384) || decide (H < -16384), 3, b)]
end Go.Proofs.Ytlhcjnjajkfahaa

namespace Go
section
variable {P : Program} {ops : Array Oper} {Q : Exit → Act → World → Prop} {md : Region.Mode} {S : World → Prop}
/-- Operation o is a call that hands v back and leaves the world as it is, in every world that meets S. -/
def CallsIf (P : Program) (ops : Array Oper) (S : World → Prop) (o : Oper) (v : Value) (a : Act) : Prop :=
  Region.wanted o (yielded ops a.tmps) = true ∧ ∀ w, S w → ∃ f args, (execOp a.eval o).run P w = .ok (.enter f args) w ∧ Calls P f args w (fun e w' => e = .returned v ∧ w' = w)
theorem CallsIf.wpOp {i : Nat} {o : Oper} {v : Value} {a : Act} (hi : ops[i]? = some o) (hy : CallsIf P ops S o v a)
    {K : Act → World → Prop} {w : World} (hS : S w) (h : K (a.put o.dst v) w) : wpOp P ops Q i K a w := by
  obtain ⟨hw, hv⟩ := hy
  obtain ⟨f, args, hr, hc⟩ := hv w hS
  unfold Go.wpOp
  simp only [hi, hw, if_true, Oper.wp, hr, Oper.upon]
  refine .inl (Calls.mono hc ?_)
  rintro e w' ⟨rfl, rfl⟩
  exact h
theorem CallsIf.of_same {o : Oper} {v : Value} {a a' : Act} (hy : CallsIf P ops S o v a) (he : execOp a'.eval o = execOp a.eval o)
    (hw : Region.wanted o (yielded ops a'.tmps) = Region.wanted o (yielded ops a.tmps)) : CallsIf P ops S o v a' := by
  unfold CallsIf at *
  rw [he, hw]
  exact hy
theorem wpOp_putC {j : Nat} {oi oj : Oper} {v : Value} (hj : ops[j]? = some oj) (hap : oi.apart ops oj = true)
    (hsi : ∀ cs b, oi.op ≠ .select cs b) (hsj : ∀ cs b, oj.op ≠ .select cs b)
    (hQ : ∀ c a w, Q (.panic c) (a.put oi.dst v) w → Q (.panic c) a w) {K : Act → World → Prop} {a : Act} {w : World}
    (hy : CallsIf P ops S oi v a) (h : wpOp P ops Q j K (a.put oi.dst v) w) :
    wpOp P ops Q j (fun a' w' => CallsIf P ops S oi v a' ∧ K (a'.put oi.dst v) w') a w := by
  obtain ⟨h1, h2, h3⟩ := Oper.apart_spec hap
  have keep : ∀ (a : Act), CallsIf P ops S oi v a → ∀ u, CallsIf P ops S oi v (a.put oj.dst u) := fun a hy u =>
    hy.of_same (execOp_put oi hsi a oj.dst u h3) (wanted_put oi a oj.dst u h3)
  have keepD : ∀ d, CallsIf P ops S oi v { a with defers := d :: a.defers } := fun d => hy.of_same rfl rfl
  unfold wpOp at *
  simp only [hj] at *
  rw [wanted_put oj a oi.dst v h1] at h
  split
  · rename_i hw
    simp only [hw, if_true] at h
    rcases h with h | ⟨hasks, hlets⟩
    case inr => exact .inr ⟨by unfold Oper.asks at *; rw [execOp_put oj hsj a oi.dst v h1] at hasks; exact hasks, hlets⟩
    refine .inl ?_
    unfold Oper.wp at *
    rw [execOp_put oj hsj a oi.dst v h1] at h
    generalize (execOp a.eval oj).run P w = r at *
    cases r with
    | ok n w' =>
      cases n <;> simp only [Oper.upon] at h ⊢
      case value u => exact ⟨keep a hy u, by rw [← Act.put_comm a v u h2]; exact h⟩
      case skip => exact ⟨keep a hy _, by rw [← Act.put_comm a v undef h2]; exact h⟩
      case defer d =>
        refine ⟨keep _ (keepD d) _, ?_⟩
        rw [← Act.put_comm _ v undef h2, ← Act.put_defers]
        exact h
      case enter f args =>
        refine Calls.mono h fun e w'' he => ?_
        cases e with
        | returned u => exact ⟨keep a hy u, by rw [← Act.put_comm a v u h2]; exact he⟩
        | panicked c => exact hQ _ _ _ he
        | outgrown => exact he
      case row row args => exact Rows.mono h fun u w'' he => ⟨keep a hy u, by rw [← Act.put_comm a v u h2]; exact he⟩
    | halt x w' =>
      cases x <;> simp only [Oper.upon] at h ⊢
      case panic u => exact hQ _ _ _ h
  · rename_i hw
    simp only [hw] at h
    exact ⟨keep a hy _, by rw [← Act.put_comm a v undef h2]; exact h⟩
theorem wpAnyH_firstC {i : Nat} {oi : Oper} {v : Value} (hi : ops[i]? = some oi) (hsel : ∀ (j : Nat) (o : Oper) cs b, ops[j]? = some o → o.op ≠ .select cs b)
    (hQ : ∀ c a w, Q (.panic c) (a.put oi.dst v) w → Q (.panic c) a w) :
    ∀ (fuel : Nat) (listed : Array Bool) (a : Act) (w : World),
      (∀ j oj, ops[j]? = some oj → j ≠ i → listed.getD j true = false → (∀ e ∈ oj.after, Region.binds md e = true → e.on ≠ i) → oi.apart ops oj = true) →
      i ∈ Region.ready md ops listed → CallsIf P ops S oi v a → S w →
      wpAnyH P md ops Q S fuel (listed.setIfInBounds i true) (a.put oi.dst v) w → wpAnyH P md ops Q S (fuel + 1) listed a w := by
  intro fuel
  induction fuel with
  | zero =>
    intro listed a w _ hr hy hS H
    refine ⟨fun h => (by rw [h] at hr; cases hr), fun j hj => ?_⟩
    by_cases hji : j = i
    · subst hji; exact hy.wpOp hi hS ⟨hS, H⟩
    · have := ready_mono hj hji
      rw [H.1] at this
      cases this
  | succ fuel ih =>
    intro listed a w hfree hr hy hS H
    refine ⟨fun h => (by rw [h] at hr; cases hr), fun j hj => ?_⟩
    by_cases hji : j = i
    · subst hji; exact hy.wpOp hi hS ⟨hS, H⟩
    · have h1 := H.2 j (ready_mono hj hji)
      obtain ⟨hjun, oj, hoj, hall⟩ := mem_ready.1 hj
      have hnot : ∀ e ∈ oj.after, Region.binds md e = true → e.on ≠ i := fun e he hb heq => by
        have h1 := hall e he hb
        have h0 := (mem_ready.1 hr).1
        rw [heq] at h1
        rcases Nat.lt_or_ge i listed.size with h' | h'
        · simp [h'] at h0 h1; rw [h0] at h1; cases h1
        · simp [Array.getElem?_eq_none h'] at h1
      have h2 := wpOp_putC hoj (hfree j oj hoj hji hjun hnot) (fun cs b => hsel i oi cs b hi) (fun cs b => hsel j oj cs b hoj) hQ hy h1
      have hfree' : ∀ k ok, ops[k]? = some ok → k ≠ i → (listed.setIfInBounds j true).getD k true = false →
          (∀ e ∈ ok.after, Region.binds md e = true → e.on ≠ i) → oi.apart ops ok = true := fun k ok hk hki hun hno => by
        refine hfree k ok hk hki ?_ hno
        by_cases hjk : j = k
        · subst hjk; exact hjun
        · rw [getD_set_ne true hjk] at hun; exact hun
      refine wpOp_mono (fun a' w' h3 => ⟨h3.2.1, ih (listed.setIfInBounds j true) a' w' hfree' (ready_mono hr (Ne.symm hji)) h3.1 h3.2.1 ?_⟩) h2
      rw [Array.setIfInBounds_comm _ _ hji]
      exact h3.2.2
end
end Go
namespace Go
section
variable {P : Program} {ops : Array Oper} {Q : Exit → Act → World → Prop} {md : Region.Mode} {S : World → Prop}
/-- .. or an operation that yields, or that is passed over. -/
theorem wpAnyH_call2 {i : Nat} {oi : Oper} {v : Value} {fuel : Nat} {listed : Array Bool} {a : Act} {w : World} (hi : ops[i]? = some oi)
    (hs : Region.noSelect ops = true) (hf : Region.free md ops listed i = true) (hr : (Region.ready md ops listed).contains i = true)
    (hQ : ∀ c a w, Q (.panic c) (a.put oi.dst v) w → Q (.panic c) a w) (hy : YieldsIf P ops S oi v a ∨ CallsIf P ops S oi v a) (hS : S w)
    (h : wpAnyH P md ops Q S fuel (listed.setIfInBounds i true) (a.put oi.dst v) w) : wpAnyH P md ops Q S (fuel + 1) listed a w := by
  rcases hy with hy | hy
  · exact wpAnyH_take hi hs hf hr hQ hy hS h
  · exact wpAnyH_firstC hi (Region.noSelect_spec hs) hQ fuel listed a w (Region.free_spec hi hf) (by simpa using hr) hy hS h
end
end Go

namespace Go.Proofs.Ytlhcjnjajkfahaa
open Go.RowKit
set_option linter.unusedVariables false
set_option linter.unusedSimpArgs false
theorem owns_obj {w : World} {B base n size : Nat} {L : List Value} {T : TypeId} (h : Obj1 w B L.toArray T) (hb : base ≤ B) (hc : n ≤ maxLen) (hl : L.length = n * size) : w.ownsRow base T size (.slice (some ⟨B, 0, none⟩) n n) n L :=
  ⟨by omega, Or.inr ⟨B, n, L.toArray, rfl, hb, h, Nat.le_refl _, hc, by simpa using hl, by rw [show L.toArray.toList = L by simp, ← hl]; exact List.take_length⟩⟩
theorem news_obj {w : World} {B : Nat} {L : List Value} {T : TypeId} (h : Obj1 w B L.toArray T) : ∀ j u, L[j]? = some u → w.cell? ((⟨B, 0, none⟩ : Addr).add j) = some u := by
  intro j u hu
  rw [Addr.add_mid, Nat.zero_add, h.cell]; simpa using hu
theorem owns_set3 {w : World} {base e size n g cap : Nat} {xs : List Value} (h : w.ownsRow base e size (.slice (some ⟨g, 0, none⟩) n cap) n xs) {OB o : Nat} (u : Value) (hOB : g ≠ OB) : (w.setCell ⟨OB, o, none⟩ u).ownsRow base e size (.slice (some ⟨g, 0, none⟩) n cap) n xs := by
  obtain ⟨h1, h2⟩ := h
  refine ⟨h1, ?_⟩
  rcases h2 with ⟨h2, _⟩ | ⟨g', cap', cur, hv, hb, hg, rest⟩
  · simp at h2
  · have e : g' = g := by injection hv with hv; injection hv with hv; injection hv with hv; exact hv.symm
    subst e
    exact Or.inr ⟨g', cap', cur, hv, hb, Obj1.set_other (T := e) (cs := cur) hg ⟨OB, o, none⟩ u (by simpa using hOB), rest⟩
theorem Stored.owns {w w2 : World} {b o base e size n g cap : Nat} {vs xs : List Value} (hst : Stored w b o vs w2) (h : w.ownsRow base e size (.slice (some ⟨g, 0, none⟩) n cap) n xs) (hn : g ≠ b) : w2.ownsRow base e size (.slice (some ⟨g, 0, none⟩) n cap) n xs := by
  rw [show w2 = _ from hst]; clear hst
  induction vs generalizing w o with
  | nil => exact h
  | cons v r ih => rw [World.setCells]; exact ih (owns_set3 h v hn)
structure Hd where
  sz : Int
  w : Int
  h : Int
  top : Bool
  dp : Int
  mt : Int
  co : Int
  m : List Int
  fr : Int
def Hd.cells (a : Hd) : List Value := [.int .i64 a.sz, .int .i64 a.w, .int .i64 a.h, .bool a.top, .int .i64 a.dp, .int .i64 a.mt, .int .i64 a.co] ++ (a.m.map (.int .i64) ++ [.int .i64 a.fr])
def z8 : List Int := [0, 0, 0, 0, 0, 0, 0, 0]
def smallH (s : ByteArray) : Hd := ⟨12, lowK s 4 2, lowK s 6 2, false, lowK s 10 2, 0, if lowK s 10 2 ≤ 8 then 2 ^ (lowK s 10 2).toNat else 0, z8, 0⟩
def smallF (s : ByteArray) : List Fnd := sidesF (lowK s 4 2) (lowK s 6 2) 4 6 ++ [(lowK s 8 2 != 1, 2, 8), (!dpB (lowK s 10 2) false, 3, 10)]
def greatH (s : ByteArray) : Hd := ⟨s.size, signed (lowK s 4 4), if signed (lowK s 8 4) < 0 then -signed (lowK s 8 4) else signed (lowK s 8 4), decide (signed (lowK s 8 4) < 0), lowK s 14 2, lowK s 16 4,
  if lowK s 32 4 = 0 ∧ lowK s 14 2 ≤ 8 then mostI (lowK s 14 2) else lowK s 32 4, z8, 0⟩
def greatF (s : ByteArray) : List Fnd := sidesF (signed (lowK s 4 4)) (signed (lowK s 8 4)) 4 8 ++ [(lowK s 12 2 != 1, 2, 12), (!dpB (lowK s 14 2) true, 3, 14), (decide (lowK s 16 4 > 3), 3, 16), (!fitsB (lowK s 16 4) (lowK s 14 2), 2, 16),
  (decide (signed (lowK s 8 4) < 0) && (lowK s 16 4 == 1 || lowK s 16 4 == 2), 2, 8), (dpB (lowK s 14 2) true && decide (lowK s 32 4 > mostI (lowK s 14 2)), 2, 32)]
end Go.Proofs.Ytlhcjnjajkfahaa

namespace Go.Proofs.Ytlhcjnjajkfahaa
open Go.RowKit
set_option linter.unusedVariables false
set_option linter.unusedSimpArgs false
theorem signed_bd (v : Int) (h0 : 0 ≤ v) (h1 : v < 4294967296) : -2147483648 ≤ signed v ∧ signed v < 2147483648 := by unfold signed; split <;> omega
theorem lowK4_bd (s : ByteArray) (a : Nat) : 0 ≤ lowK s a 4 ∧ lowK s a 4 < 4294967296 := by have := lowK_bd s a 4; have h32 : (2 : Int) ^ (8 * 4) = 4294967296 := by decide
                                                                                            omega
end Go.Proofs.Ytlhcjnjajkfahaa

namespace Go.Proofs.Ytlhcjnjajkfahaa
open Go.RowKit
set_option linter.unusedVariables false
set_option linter.unusedSimpArgs false
/-- A head's bytes, or why there are none. -/
def tkRes (x : Sr) (l : Led) (f : Int) : (ByteArray × List Value) × (Sr × Led) :=
  if (x.next l 4).2.2 = false then ((ByteArray.empty, faultL (x.next l 4).1.1 (x.next l 4).1.2 f), (x.next l 4).1) else
  if headsB (lowK (x.next l 4).2.1 0 4) = false then ((ByteArray.empty, [.int .i64 (if knownH (lowK (x.next l 4).2.1 0 4) = true then 3 else 2), .int .i64 f, .int .i64 x.p]), (x.next l 4).1) else
  if ((x.next l 4).1.1.next (x.next l 4).1.2 (lowK (x.next l 4).2.1 0 4 - 4)).2.2 = false then ((ByteArray.empty, faultL ((x.next l 4).1.1.next (x.next l 4).1.2 (lowK (x.next l 4).2.1 0 4 - 4)).1.1 ((x.next l 4).1.1.next (x.next l 4).1.2 (lowK (x.next l 4).2.1 0 4 - 4)).1.2 f), ((x.next l 4).1.1.next (x.next l 4).1.2 (lowK (x.next l 4).2.1 0 4 - 4)).1) else
  (((x.next l 4).2.1 ++ ((x.next l 4).1.1.next (x.next l 4).1.2 (lowK (x.next l 4).2.1 0 4 - 4)).2.1, [.int .i64 0, .int .i64 0, .int .i64 0]), ((x.next l 4).1.1.next (x.next l 4).1.2 (lowK (x.next l 4).2.1 0 4 - 4)).1)
end Go.Proofs.Ytlhcjnjajkfahaa

namespace Go.Proofs.Ytlhcjnjajkfahaa
open Go.RowKit
/-- Have two words a bit in common, among the first k? -/
def bothF (v u : Int) : Nat → Bool
  | 0 => false
  | k + 1 => bothF v u k || (bitB v k && bitB u k)
theorem bothF_succ (v u : Int) (k : Nat) : bothF v u (k + 1) = (bothF v u k || (bitB v k && bitB u k)) := rfl
theorem bothF_mono (v u : Int) (k j : Nat) (h : bothF v u k = true) (hj : k ≤ j) : bothF v u j = true := by
  induction j with
  | zero => obtain rfl : k = 0 := by omega
            exact h
  | succ j ih => by_cases e : k = j + 1
                 · subst e; exact h
                 · unfold bothF; rw [ih (by omega)]; rfl
theorem both_any (v u : Int) (w : World) : Calls Try.prog 110 #[.int .i64 v, .int .i64 u] w fun e w' => e = .returned (.bool (bothF v u 32)) ∧ w = w' := by
  go_enter Try.func110, Try.ntmps110
  go_wp2
  go_loop [5] (fun i => ∃ k : Nat, k ≤ 32 ∧ i = .int .i64 k ∧ bothF v u k = false) (fun i => 32 - (intOf i).toNat)
  case atStart => exact ⟨0, by omega, rfl, rfl⟩
  case round =>
    obtain ⟨k, hk, rfl, hf⟩ := hrel
    by_cases hlt : k < 32
    · have E := Lib.hid (bothF_succ v u k)
      have F := Lib.hid hf
      have M := Lib.hid (fun h => bothF_mono v u (k + 1) 32 h (by omega))
      clear hf
      cases h1 : bitB v k <;> cases h2 : bitB u k
      all_goals
        go_wp2_with (first | (go_at_call 123; (with_reducible refine (rbit_any v k _ (by omega) (by omega)).mono ?_); rintro e w1 ⟨rfl, rfl⟩) | (go_at_call 123; (with_reducible refine (rbit_any u k _ (by omega) (by omega)).mono ?_); rintro e w1 ⟨rfl, rfl⟩))
        first
          | (go_ret
             exact ⟨ret_bool (by rw [M.out (by rw [E.out, F.out, h1, h2]; rfl)]), rfl⟩)
          | (go_round
             case rel => exact ⟨k + 1, by omega, by go_num, by rw [E.out, F.out, h1]; simp [h2]⟩
             case measure => simp [intOf]; omega)
    · obtain rfl : k = 32 := by omega
      have F := Lib.hid hf
      clear hf
      go_wp2
      go_ret
      exact ⟨ret_bool F.out.symm, rfl⟩
end Go.Proofs.Ytlhcjnjajkfahaa

namespace Go.Proofs.Ytlhcjnjajkfahaa
open Go.RowKit
/-- From, how many, how many runs, of the first k bits. -/
def rfAcc (v : Int) : Nat → Int × Int × Int
  | 0 => (0, 0, 0)
  | k + 1 => if bitB v k = true then (if k = 0 ∨ bitB v (k - 1) = false then (k, (rfAcc v k).2.1 + 1, (rfAcc v k).2.2 + 1) else ((rfAcc v k).1, (rfAcc v k).2.1 + 1, (rfAcc v k).2.2)) else rfAcc v k
theorem rfAcc_succ (v : Int) (k : Nat) : rfAcc v (k + 1) = if bitB v k = true then (if k = 0 ∨ bitB v (k - 1) = false then ((k : Int), (rfAcc v k).2.1 + 1, (rfAcc v k).2.2 + 1) else ((rfAcc v k).1, (rfAcc v k).2.1 + 1, (rfAcc v k).2.2)) else rfAcc v k := rfl
theorem rfAcc_bd (v : Int) (k : Nat) : 0 ≤ (rfAcc v k).2.1 ∧ (rfAcc v k).2.1 ≤ k ∧ 0 ≤ (rfAcc v k).2.2 ∧ (rfAcc v k).2.2 ≤ k := by
  induction k with
  | zero => simp [rfAcc]
  | succ k ih => rw [rfAcc_succ]; split <;> (try split) <;> (try simp only []) <;> omega
def rfindI (v width : Int) : Int × Int × Int :=
  if ¬ width = 16 ∧ ¬ width = 32 then (0, 0, 1)
  else if v < 0 ∨ 2 ^ width.toNat ≤ v then (0, 0, 2)
  else if 1 < (rfAcc v width.toNat).2.2 then (0, 0, 6) else ((rfAcc v width.toNat).1, (rfAcc v width.toNat).2.1, 0)
theorem p16 : (2 : Int) ^ (16 : Int).toNat = 65536 := by decide
theorem p32 : (2 : Int) ^ (32 : Int).toNat = 4294967296 := by decide
theorem t16 : (16 : Int).toNat = 16 := rfl
theorem t32 : (32 : Int).toNat = 32 := rfl
def RFPost (w : World) (r : Int × Int × Int) (e : Ending) (w' : World) : Prop := e = .returned (.tuple #[.int .i64 r.1, .int .i64 r.2.1, .int .i64 r.2.2]) ∧ w = w'
theorem rfind_arg (v width : Int) (w : World) (h1 : ¬ width = 16) (h2 : ¬ width = 32) : Calls Try.prog 109 #[.int .i64 v, .int .i64 width] w (RFPost w (0, 0, 1)) := by
  have g1 : (width != 16) = true := by simpa using h1
  have g2 : (width != 32) = true := by simpa using h2
  clear h1 h2
  go_enter Try.func109, Try.ntmps109
  go_wp2
  go_ret3
  exact ⟨rfl, rfl⟩
theorem rfind_range (v width : Int) (w : World) (h1 : width = 16 ∨ width = 32) (h2 : v < 0 ∨ 2 ^ width.toNat ≤ v) : Calls Try.prog 109 #[.int .i64 v, .int .i64 width] w (RFPost w (0, 0, 2)) := by
  rcases h1 with rfl | rfl
  rw [p16] at h2
  rotate_left
  rw [p32] at h2
  all_goals
    rcases h2 with h2 | h2
    all_goals
      go_enter Try.func109, Try.ntmps109
      go_wp2_with (go_at_call 13; (with_reducible refine (power_any _ _ (by omega) (by omega)).mono ?_); rintro e w1 ⟨rfl, rfl⟩)
      go_ret3
      exact ⟨rfl, rfl⟩
set_option maxHeartbeats 1000000 in
theorem rfind_go (v width : Int) (w : World) (h1 : width = 16 ∨ width = 32) (h2 : 0 ≤ v) (h3 : v < 2 ^ width.toNat) : Calls Try.prog 109 #[.int .i64 v, .int .i64 width] w (RFPost w (rfindI v width)) := by
  have T0 := Lib.hid (show rfindI v width = if 1 < (rfAcc v width.toNat).2.2 then (0, 0, 6) else ((rfAcc v width.toNat).1, (rfAcc v width.toNat).2.1, 0) by unfold rfindI; rw [if_neg (by omega), if_neg (by omega)])
  rcases h1 with rfl | rfl
  rw [p16] at h3
  obtain ⟨N, n1, n2⟩ : ∃ N : Nat, N ≤ 16 ∧ 16 ≤ N := ⟨16, by omega, by omega⟩
  rotate_left
  rw [p32] at h3
  obtain ⟨N, n1, n2⟩ : ∃ N : Nat, N ≤ 32 ∧ 32 ≤ N := ⟨32, by omega, by omega⟩
  all_goals
    go_enter Try.func109, Try.ntmps109
    go_wp2_with (go_at_call 13; (with_reducible refine (power_any _ _ (by omega) (by omega)).mono ?_); rintro e w1 ⟨rfl, rfl⟩)
    go_loop [7, 8, 9, 10] (fun a b c i => ∃ k : Nat, k ≤ N ∧ i = .int .i64 k ∧ a = .int .i64 (rfAcc v k).1 ∧ c = .int .i64 (rfAcc v k).2.2 ∧ b = .int .i64 (rfAcc v k).2.1) (fun _ _ _ i => N - (intOf i).toNat)
    case atStart => exact ⟨0, by omega, rfl, rfl, rfl, rfl⟩
    case round =>
      obtain ⟨k, hk, rfl, rfl, rfl, rfl⟩ := hrel
      obtain ⟨b0, b1, b2, b3⟩ := rfAcc_bd v k
      by_cases hlt : k < N
      · have E := Lib.hid (rfAcc_succ v k)
        cases g1 : bitB v k
        · go_wp2_with (go_at_call 123; (with_reducible refine (rbit_any v k _ (by omega) (by omega)).mono ?_); rintro e w1 ⟨rfl, rfl⟩)
          go_round
          case rel => exact ⟨k + 1, by omega, by go_num, by rw [E.out, g1]; simp, by rw [E.out, g1]; simp, by rw [E.out, g1]; simp⟩
          case measure => simp [intOf]; omega
        · by_cases hk0 : k = 0
          · subst hk0
            go_wp2_with (go_at_call 123; (with_reducible refine (rbit_any v 0 _ (by omega) (by omega)).mono ?_); rintro e w1 ⟨rfl, rfl⟩)
            go_round
            case rel => exact ⟨0 + 1, by omega, by go_num, by rw [E.out, g1]; simp, by rw [E.out, g1]; simp, by rw [E.out, g1]; simp⟩
            case measure => simp [intOf]; omega
          · have hd : ((k : Int) == 0) = false := by simp; omega
            have hk1 : ((k : Int) - 1).toNat = k - 1 := by omega
            cases g2 : bitB v (k - 1)
            all_goals
              go_wp2_with (first | (go_at_call 123; (with_reducible refine (rbit_any v k _ (by omega) (by omega)).mono ?_); rintro e w1 ⟨rfl, rfl⟩) | (go_at_call 123; (with_reducible refine (rbit_any v (↑k - 1) _ (by omega) (by omega)).mono ?_); rintro e w1 ⟨rfl, rfl⟩))
              go_round
              case rel => exact ⟨k + 1, by omega, by go_num, by rw [E.out, g1]; simp [g2, hk0], by rw [E.out, g1]; simp [g2, hk0], by rw [E.out, g1]; simp [g2, hk0]⟩
              case measure => simp [intOf]; omega
      · have hge : N ≤ k := by omega
        by_cases hr : 1 < (rfAcc v k).2.2
        all_goals
          have E := Lib.hid (T0.out)
          go_wp2
          go_ret3
          have ek : k = 16 ∨ k = 32 := by omega
          refine ⟨?_, rfl⟩
          rw [E.out]
          first | (rw [t16, ← show k = 16 by omega]) | (rw [t32, ← show k = 32 by omega])
          first | rw [if_pos (by omega)] | rw [if_neg (by omega)]
          rfl
theorem rfind_any (v width : Int) (w : World) : Calls Try.prog 109 #[.int .i64 v, .int .i64 width] w (RFPost w (rfindI v width)) := by
  by_cases h1 : width = 16 ∨ width = 32
  · by_cases h2 : v < 0 ∨ 2 ^ width.toNat ≤ v
    · have : rfindI v width = (0, 0, 2) := by unfold rfindI; rw [if_neg (by omega), if_pos h2]
      rw [this]; exact rfind_range v width w h1 h2
    · exact rfind_go v width w h1 (by omega) (by omega)
  · have : rfindI v width = (0, 0, 1) := by unfold rfindI; rw [if_pos (by omega)]
    rw [this]; exact rfind_arg v width w (by omega) (by omega)
end Go.Proofs.Ytlhcjnjajkfahaa

namespace Go.Proofs.Ytlhcjnjajkfahaa
open Go.RowKit
/-- The first of four that is wrong. -/
def scan4 (f : Nat → Int) : Int × Int := if f 0 ≠ 0 then (0, f 0) else if f 1 ≠ 0 then (1, f 1) else if f 2 ≠ 0 then (2, f 2) else if f 3 ≠ 0 then (3, f 3) else (0, 0)
theorem scan4_at (f : Nat → Int) (k : Nat) (hk : k < 4) (h : ∀ j, j < k → f j = 0) (h2 : f k ≠ 0) : scan4 f = ((k : Int), f k) := by
  unfold scan4
  rcases (show k = 0 ∨ k = 1 ∨ k = 2 ∨ k = 3 by omega) with rfl | rfl | rfl | rfl
  · rw [if_pos h2]; rfl
  · rw [if_neg (by simp [h 0]), if_pos h2]; rfl
  · rw [if_neg (by simp [h 0]), if_neg (by simp [h 1]), if_pos h2]; rfl
  · rw [if_neg (by simp [h 0]), if_neg (by simp [h 1]), if_neg (by simp [h 2]), if_pos h2]; rfl
theorem scan4_none (f : Nat → Int) (h : ∀ j, j < 4 → f j = 0) : scan4 f = (0, 0) := by
  unfold scan4
  rw [if_neg (by simp [h 0]), if_neg (by simp [h 1]), if_neg (by simp [h 2]), if_neg (by simp [h 3])]
/-- Has the k-th of some words a bit in common with one of the first j? -/
def anyBoth (l : Nat → Int) (k : Nat) : Nat → Bool
  | 0 => false
  | j + 1 => anyBoth l k j || bothF (l k) (l j) 32
theorem anyBoth_mono (l : Nat → Int) (k j i : Nat) (h : anyBoth l k j = true) (hj : j ≤ i) : anyBoth l k i = true := by
  induction i with
  | zero => obtain rfl : j = 0 := by omega
            exact h
  | succ i ih => by_cases e : j = i + 1
                 · subst e; exact h
                 · unfold anyBoth; rw [ih (by omega)]; rfl
theorem anyBoth_succ (l : Nat → Int) (k j : Nat) : anyBoth l k (j + 1) = (anyBoth l k j || bothF (l k) (l j) 32) := rfl
def rstep (l : Nat → Int) (width : Int) (k : Nat) : Int := if (rfindI (l k) width).2.2 ≠ 0 then (rfindI (l k) width).2.2 else if anyBoth l k k = true then 11 else 0
def RFour (w : World) (r : Int × Int) (e : Ending) (w' : World) : Prop := e = .returned (.tuple #[.int .i64 r.1, .int .i64 r.2]) ∧ Below w.heap.size w w'
set_option maxHeartbeats 1000000 in
theorem rfour_any (l : Nat → Int) (width : Int) (B : Nat) (w : World) (hB : B < w.heap.size) (hc : ∀ i, i < 4 → w.cell? ⟨B, i, none⟩ = some (.int .i64 (l i))) :
    Calls Try.prog 83 #[.slice (some ⟨B, 0, none⟩) 4 4, .int .i64 width] w (RFour w (scan4 (rstep l width))) := by
  go_enter Try.func83, Try.ntmps83
  go_wp2
  go_loopw [6] (fun i wr => ∃ k : Nat, k ≤ 4 ∧ i = .int .i64 k ∧ (∀ j, j < k → rstep l width j = 0) ∧ Below w.heap.size w wr) (fun i _ => 4 - (intOf i).toNat)
  case atStart => exact ⟨0, by omega, rfl, fun j hj => by omega, Below.refl _ _⟩
  case round =>
    obtain ⟨k, hk, rfl, hz, hbl⟩ := hrel
    have Z := Lib.hid hz
    clear hz
    have C := Lib.hid (fun i hi => ((bcell hbl).1 B i hB).trans (hc i hi))
    clear hc
    by_cases hlt : k < 4
    · have hck := C.out k hlt
      by_cases he : (rfindI (l k) width).2.2 = 0
      · have hd : ((rfindI (l k) width).2.2 != 0) = false := by rw [he]; rfl
        have He := Lib.hid he
        clear he
        go_wp2_with (go_at_call 109; (with_reducible refine (rfind_any (l k) width _).mono ?_); rintro e w1 ⟨rfl, rfl⟩)
        obtain ⟨wo, rfl⟩ : ∃ wo : World, wo = wr := ⟨_, rfl⟩
        clear hck
        go_loopw [10] (fun i wr => ∃ j : Nat, j ≤ k ∧ i = .int .i64 j ∧ anyBoth l k j = false ∧ Below w.heap.size w wr) (fun i _ => k - (intOf i).toNat)
        case atStart => exact ⟨0, by omega, rfl, rfl, hbl⟩
        case round =>
          obtain ⟨j, hj, rfl, ha, hbl⟩ := hrel
          rename_i hbl0
          have C2 := Lib.hid (fun i hi => ((bcell hbl).1 B i hB).trans (((bcell hbl0).1 B i hB).symm.trans (C.out i hi)))
          have A := Lib.hid ha
          clear ha hbl0
          by_cases hjl : j < k
          · have hck := C2.out k hlt
            have hcj := C2.out j (by omega)
            have hj4 : (j : Int) < 4 := by omega
            have hj5 : (k : Int) < 4 := by omega
            have A2 := Lib.hid (anyBoth_succ l k j)
            go_wp2
            go_quiet ((go_at_call 110; exact Calls.quiet_of_same ((both_any (l k) (l j) _).mono (fun e w' h => ⟨h.1, h.2.symm⟩))))
            go_wp2
            · have hb : bothF (l k) (l j) 32 = true := by assumption
              have ht : anyBoth l k k = true := anyBoth_mono l k (j + 1) k (by rw [A2.out, A.out, hb]; rfl) (by omega)
              have hs : rstep l width k = 11 := by unfold rstep; rw [if_neg (by simp [He.out]), if_pos ht]
              have hsc := scan4_at _ k hlt Z.out (by rw [hs]; decide)
              have S := Lib.hid (hsc.trans (by rw [hs]))
              clear hsc hs ht
              go_ret2
              exact ⟨by rw [S.out]; rfl, bdrew hbl _⟩
            · have hb : bothF (l k) (l j) 32 = false := by assumption
              go_roundw
              case rel => exact ⟨j + 1, by omega, by go_num, by rw [A2.out, A.out, hb]; rfl, bdrew hbl _⟩
              case measure => simp [intOf]; omega
          · have ej : j = k := by omega
            have A3 : Hid (anyBoth l k k = false) := Lib.hid (by rw [← ej]; rw [ej]; have := A.out; rwa [ej] at this)
            clear ej
            go_wp2
            go_roundw
            case rel =>
              refine ⟨k + 1, by omega, by go_num, fun i hi => ?_, hbl⟩
              by_cases e : i = k
              · rw [e]; unfold rstep; rw [if_neg (by simp [He.out]), if_neg (by rw [A3.out]; decide)]
              · exact Z.out i (by omega)
            case measure => simp [intOf]; omega
      · have hd : ((rfindI (l k) width).2.2 != 0) = true := by simpa using he
        have hs : rstep l width k = (rfindI (l k) width).2.2 := by unfold rstep; rw [if_pos he]
        have hsc := scan4_at _ k hlt Z.out (by rw [hs]; exact he)
        have S := Lib.hid (hsc.trans (by rw [hs]))
        clear hsc hs he
        go_wp2_with (go_at_call 109; (with_reducible refine (rfind_any (l k) width _).mono ?_); rintro e w1 ⟨rfl, rfl⟩)
        go_ret2
        exact ⟨by rw [S.out]; rfl, hbl⟩
    · have S := Lib.hid (scan4_none _ (fun j hj => Z.out j (by omega)))
      go_wp2
      go_ret2
      exact ⟨by rw [S.out]; rfl, hbl⟩
end Go.Proofs.Ytlhcjnjajkfahaa

namespace Go.Proofs.Ytlhcjnjajkfahaa
open Go.RowKit
set_option linter.unusedVariables false
set_option linter.unusedSimpArgs false
theorem scan4_bd (f : Nat → Int) : 0 ≤ (scan4 f).1 ∧ (scan4 f).1 ≤ 3 := by unfold scan4; (repeat' split) <;> simp
theorem Stored.chgS {S : Nat → Prop} {a w w2 : World} {b o : Nat} {vs : List Value} (hst : Stored w b o vs w2) (h : Chg S a w) (hb : S b ∨ a.heap.size ≤ b) : Chg S a w2 := by
  rw [show w2 = _ from hst]; clear hst
  induction vs generalizing w o with
  | nil => exact h
  | cons v r ih => rw [World.setCells]; exact ih (h.set _ v hb)
end Go.Proofs.Ytlhcjnjajkfahaa

namespace Go.Proofs.Ytlhcjnjajkfahaa
open Go.RowKit
set_option linter.unusedVariables false
set_option linter.unusedSimpArgs false
structure TkGood (x : Sr) (l : Led) (f : Int) (n : Nat) : Prop where
  hd : headsB n = true
  le : x.p + n ≤ x.e
  fz : (tkRes x l f).1.2 = [.int .i64 0, .int .i64 0, .int .i64 0]
  bt : (tkRes x l f).1.1 = x.s.extract x.p (x.p + n)
  st : (tkRes x l f).2 = ({ x with p := x.p + n }, ((l.work 1).1.work 1).1)
  lo : lowK x.s x.p 4 = n
  w1 : (l.work 1).2 = true
  w2 : ((l.work 1).1.work 1).2 = true
theorem lowK_ext (s : ByteArray) (a b i k : Nat) (h : a + i + k ≤ b) (hb : b ≤ s.size) : lowK (s.extract a b) i k = lowK s (a + i) k := by
  induction k with
  | zero => rfl
  | succ k ih => rw [lowK, lowK, ih (by omega), byN_ext s a b (i + k) (by omega) hb, Nat.add_assoc a i k]
def Hd.at (a : Hd) (m : List Int) (fr : Int) : List Value := [.int .i64 a.sz, .int .i64 a.w, .int .i64 a.h, .bool a.top, .int .i64 a.dp, .int .i64 a.mt, .int .i64 a.co] ++ (m.map (.int .i64) ++ [.int .i64 fr])
theorem owns_range {w : World} {base e size n g cap : Nat} {xs : List Value} (h : w.ownsRow base e size (.slice (some ⟨g, 0, none⟩) n cap) n xs) : w.rangeAt g 0 xs := by
  obtain ⟨hl, h2⟩ := h
  rcases h2 with ⟨h2, _⟩ | ⟨g', cap', cur, hv, hg, hh, hn, hc, hs, ht⟩
  · simp at h2
  · have e' : g' = g := by injection hv with hv; injection hv with hv; injection hv with hv; exact hv.symm
    subst e'
    intro j v hv
    rw [← ht, List.getElem?_take] at hv
    split at hv
    · simp [World.cell?, hh]; simpa using hv
    · cases hv
theorem owns_lt {w : World} {base e size n g cap : Nat} {xs : List Value} (h : w.ownsRow base e size (.slice (some ⟨g, 0, none⟩) n cap) n xs) : base ≤ g ∧ g < w.heap.size := owns_blk h rfl
end Go.Proofs.Ytlhcjnjajkfahaa

namespace Go.Proofs.Ytlhcjnjajkfahaa
open Go.RowKit
set_option linter.unusedVariables false
set_option linter.unusedSimpArgs false
def z40 : ByteArray := strOf [40, 0, 0, 0, 1, 0, 0, 0, 255, 255, 255, 255, 1, 0, 24, 0, 0, 0, 0, 0, 0, 0, 0, 0, 0, 0, 0, 0, 0, 0, 0, 0, 0, 0, 0, 0, 0, 0, 0, 0]
end Go.Proofs.Ytlhcjnjajkfahaa

namespace Go.Proofs.Ytlhcjnjajkfahaa
open Go.RowKit
set_option linter.unusedVariables false
set_option linter.unusedSimpArgs false
def entC (s : ByteArray) : List Value := [.int .u8 (byN s 2), .int .u8 (byN s 1), .int .u8 (byN s 0), .int .u8 255]
set_option maxRecDepth 100000 in
set_option maxHeartbeats 4000000 in
theorem entry10_any (s : ByteArray) (k : Int) (w : World) (hs : 3 ≤ s.size) (hk : k = 3 ∨ k = 4) : Calls Try.prog 85 #[.string s, .int .i64 k] w (RA w (entC s)) := by
  have e2 : (k == 2) = false := by rcases hk with rfl | rfl <;> rfl
  have e5 : (k == 5) = false := by rcases hk with rfl | rfl <;> rfl
  have q0 : 0 < s.size := by omega
  have q1 : 1 < s.size := by omega
  have q2 : 2 < s.size := by omega
  have O4 := Lib.hid (obj1_new w #[.int .u8 0, .int .u8 0, .int .u8 0, .int .u8 0] 41)
  have BL := Lib.hid ((Below.refl w.heap.size w).alloc (Nat.le_refl _) (.cells #[.int .u8 0, .int .u8 0, .int .u8 0, .int .u8 0] 41))
  have g0 := byN_get s 0 q0
  have g1 := byN_get s 1 q1
  have g2 := byN_get s 2 q2
  clear hk hs
  go_enter Try.func85, Try.ntmps85
  go_upto_region 4 with (fail)
  generalize World.alloc _ _ = w1 at O4 BL ⊢
  refine wp_region_noPanic ?_
  refine wp_region_held_drew (S := fun w' => True) (by kernel_rfl) trivial (fun hHeld => ?_)
  refine wpAnyH_take (i := 0) (v := .string s) rfl (by kernel_rfl) (by kernel_rfl) (by kernel_rfl) (fun _ _ _ h => h) (Or.inl ⟨by rfl, fun w hS => by go_simp⟩) hHeld ?_
  simp only [Act.put, List.setIfInBounds_toArray, List.set_cons_zero, List.set_cons_succ, List.getElem_toArray, List.getElem_cons_zero, List.getElem_cons_succ]
  refine wpAnyH_take (i := 1) (v := .int .u8 (byN s 2)) rfl (by kernel_rfl) (by kernel_rfl) (by kernel_rfl) (fun _ _ _ h => h) (Or.inl ⟨by rfl, fun wx _ => by (go_simp) <;> first | rfl | assumption | (intro hh; exfalso; omega)⟩) hHeld ?_
  simp only [Act.put, List.setIfInBounds_toArray, List.set_cons_zero, List.set_cons_succ, List.getElem_toArray, List.getElem_cons_zero, List.getElem_cons_succ]
  refine wpAnyH_take (i := 2) (v := .string s) rfl (by kernel_rfl) (by kernel_rfl) (by kernel_rfl) (fun _ _ _ h => h) (Or.inl ⟨by rfl, fun w hS => by go_simp⟩) hHeld ?_
  simp only [Act.put, List.setIfInBounds_toArray, List.set_cons_zero, List.set_cons_succ, List.getElem_toArray, List.getElem_cons_zero, List.getElem_cons_succ]
  refine wpAnyH_take (i := 3) (v := .int .u8 (byN s 1)) rfl (by kernel_rfl) (by kernel_rfl) (by kernel_rfl) (fun _ _ _ h => h) (Or.inl ⟨by rfl, fun wx _ => by (go_simp) <;> first | rfl | assumption | (intro hh; exfalso; omega)⟩) hHeld ?_
  simp only [Act.put, List.setIfInBounds_toArray, List.set_cons_zero, List.set_cons_succ, List.getElem_toArray, List.getElem_cons_zero, List.getElem_cons_succ]
  refine wpAnyH_take (i := 4) (v := .string s) rfl (by kernel_rfl) (by kernel_rfl) (by kernel_rfl) (fun _ _ _ h => h) (Or.inl ⟨by rfl, fun w hS => by go_simp⟩) hHeld ?_
  simp only [Act.put, List.setIfInBounds_toArray, List.set_cons_zero, List.set_cons_succ, List.getElem_toArray, List.getElem_cons_zero, List.getElem_cons_succ]
  refine wpAnyH_take (i := 5) (v := .int .u8 (byN s 0)) rfl (by kernel_rfl) (by kernel_rfl) (by kernel_rfl) (fun _ _ _ h => h) (Or.inl ⟨by rfl, fun wx _ => by (go_simp) <;> first | rfl | assumption | (intro hh; exfalso; omega)⟩) hHeld ?_
  simp only [Act.put, List.setIfInBounds_toArray, List.set_cons_zero, List.set_cons_succ, List.getElem_toArray, List.getElem_cons_zero, List.getElem_cons_succ]
  refine wpAnyH_take (i := 6) (v := .agg (List.toArray [.int .u8 (byN s 2), .int .u8 (byN s 1), .int .u8 (byN s 0), .int .u8 255])) rfl (by kernel_rfl) (by kernel_rfl) (by kernel_rfl) (fun _ _ _ h => h) (Or.inl ⟨by rfl, fun w hS => by go_simp⟩) hHeld ?_
  simp only [Act.put, List.setIfInBounds_toArray, List.set_cons_zero, List.set_cons_succ, List.getElem_toArray, List.getElem_cons_zero, List.getElem_cons_succ]
  have O4 := Lib.hid (O4.out.drew)
  have BL := Lib.hid BL.out.drew
  generalize World.drew _ = wk at O4 BL ⊢
  refine wpAnyH_ready (rs := [7]) (by kernel_rfl) (by simp) ?_
  refine AllReadyH.cons (o := _) rfl (fun K' hK => ?_) AllReadyH.nil
  go_simp
  have O6 := Lib.hid (obj1_new wk #[.int .u8 0, .int .u8 0, .int .u8 0, .int .u8 0] 41)
  have l6k := O4.out.lt
  have O4 := Lib.hid (O4.out.alloc (.cells #[.int .u8 0, .int .u8 0, .int .u8 0, .int .u8 0] 41))
  have BL := Lib.hid (BL.out.alloc BL.out.size (.cells #[.int .u8 0, .int .u8 0, .int .u8 0, .int .u8 0] 41))
  obtain ⟨d, hd⟩ : ∃ d, wk.heap.size = d := ⟨_, rfl⟩
  have hdw : w.heap.size ≤ d := by rw [← hd]; omega
  rw [hd] at O6 l6k ⊢
  clear hd
  generalize World.alloc wk _ = wk2 at O4 O6 BL ⊢
  refine hK _ _ trivial (fun hA1 => ?_)
  clear hK K'
  try simp only [Act.put, List.setIfInBounds_toArray, List.set_cons_zero, List.set_cons_succ, List.getElem_toArray, List.getElem_cons_zero, List.getElem_cons_succ]
  obtain ⟨wk, rfl⟩ : ∃ z, z = wk2 := ⟨_, rfl⟩
  refine wpAnyH_ready (rs := [8]) (by kernel_rfl) (by simp) ?_
  refine AllReadyH.cons (o := _) rfl (fun K' hK => ?_) AllReadyH.nil
  rw [if_pos (by rfl)]
  refine wp_store_mid 41 _ _ rfl (d) 0 (List.toArray [.int .u8 (byN s 2), .int .u8 (byN s 1), .int .u8 (byN s 0), .int .u8 255]) rfl rfl (O6.out.there 0 4 (by simp)) (by kernel_rfl) (all_oneCell_toArray (List.all_eq_true.1 (by rfl))) ?_
  simp only [Act.put, List.setIfInBounds_toArray, List.set_cons_zero, List.set_cons_succ, List.getElem_toArray, List.getElem_cons_zero, List.getElem_cons_succ]
  have hst : Stored wk (d) 0 [.int .u8 (byN s 2), .int .u8 (byN s 1), .int .u8 (byN s 0), .int .u8 255] (wk.setCells (d) 0 [.int .u8 (byN s 2), .int .u8 (byN s 1), .int .u8 (byN s 0), .int .u8 255]) := rfl
  have O6 := Lib.hid (hst.whole O6.out (by first | rfl | simp))
  have O4 := Lib.hid (hst.oth O4.out (by omega))
  have BL := Lib.hid (hst.below BL.out (by omega))
  generalize World.setCells _ _ _ _ = wk2 at O4 O6 BL ⊢
  clear hst
  refine hK _ _ trivial (fun hH1 => ?_)
  clear hK K'
  obtain ⟨wk, rfl⟩ : ∃ z, z = wk2 := ⟨_, rfl⟩
  refine wpAnyH_done (by kernel_rfl) ?_ _
  refine NoPanic.normal ?_
  go_upto_region 7 with (fail)
  go_wp2_with (first
    | (refine load_u (by kernel_rfl) 41 4 _ rfl d [.int .u8 (byN s 2), .int .u8 (byN s 1), .int .u8 (byN s 0), .int .u8 255] rfl rfl O6.out Try.underlying41 rfl (by kernel_rfl) ?_; intro _)
    | (refine store_o rfl 41 4 _ _ rfl w.heap.size [.int .u8 (byN s 2), .int .u8 (byN s 1), .int .u8 (byN s 0), .int .u8 255] rfl rfl (by kernel_rfl) (by kernel_rfl) (by kernel_rfl) O4.out (by first | rfl | simp) ?_; intro ws hst hO; have O4 := Lib.hid hO; have O6 := Lib.hid (hst.oth O6.out (by omega)); have BL := Lib.hid (hst.below BL.out (by omega)); clear hst hO))
  refine bodyPost_ret (v := .agg (List.toArray [.int .u8 (byN s 2), .int .u8 (byN s 1), .int .u8 (byN s 0), .int .u8 255])) ?_ rfl ⟨rfl, BL.out⟩
  exact results_c Try.results85 _ _ _ [.int .u8 (byN s 2), .int .u8 (byN s 1), .int .u8 (byN s 0), .int .u8 255] _ rfl O4.out.range0 Try.underlying41 rfl (by kernel_rfl)
end Go.Proofs.Ytlhcjnjajkfahaa

namespace Go.Proofs.Ytlhcjnjajkfahaa
open Go.RowKit
set_option linter.unusedVariables false
set_option linter.unusedSimpArgs false
theorem owns_under {w w' : World} {base e sz n : Nat} {v : Value} {xs : List Value} (h : w.ownsRow base e sz v n xs) (hb : Below w.heap.size w w') : w'.ownsRow base e sz v n xs := by
  obtain ⟨hl, h2⟩ := h
  refine ⟨hl, ?_⟩
  rcases h2 with h2 | ⟨g, cap, cur, rfl, hg, hh, rest⟩
  · exact Or.inl h2
  · exact Or.inr ⟨g, cap, cur, rfl, hg, (hb.block g (Array.getElem?_eq_some_iff.1 hh).1).trans hh, rest⟩
/-- Append of one struct to a slice of the call's own: it was laid in a block of its own just before. -/
theorem appS {P : Program} {ops : Array Oper} {rest : List Oper} {o : Oper} {a : Act} {Q : Exit → Act → World → Prop} (hgd : o.guard = none) (s x : Operand) (t : TypeId)
    (ho : o.op = .call { callee := .builtin .append, args := #[s, x], argTypes := #[t, t] })
    (base : Nat) (e : TypeId) (z : Value) (sz bytes : Nat) (ht : P.underlying t = some (.slice e)) (hi : (P.info? e).map (fun i => (i.zero, i.size, i.bytes)) = some (some z, sz, bytes)) (hz1 : z.cells.size = sz) (hs0 : 0 < sz)
    (v : Value) (n : Nat) (xs : List Value) (hs : a.eval s = v) {wr : World} (hown : wr.ownsRow base e sz v n xs) (C : List Value) (hC : ∀ u ∈ C, u.oneCell' = true) (hCl : C.length = 1 * sz) (T : TypeId)
    (hx : a.eval x = .slice (some ⟨wr.heap.size, 0, none⟩) 1 1) (hn : (n + 1) * bytes ≤ 140737488355328) (hn2 : n + 1 ≤ maxLen) (hbase : base ≤ wr.heap.size)
    (h : ∀ v' w', w'.ownsRow base e sz v' (n + 1) (xs ++ C) → (∀ W, Below base W wr → Below base W w') → base ≤ w'.heap.size → wpList P ops Q rest (a.put o.dst v') w') :
    wpList P ops Q (o :: rest) a (wr.alloc (.cells C.toArray T)) := by
  obtain ⟨i, i1, i2, i3, i4⟩ := info_parts hi
  have hz : wr.heap.size < (wr.alloc (.cells C.toArray T)).heap.size := by simp
  refine wpList_append_own _ hgd s x t ho base e i z sz bytes ht i1 i2 i3 i4 hz1 hs0 v n xs hs (hown.alloc _) ⟨wr.heap.size, 0, none⟩ 1 1 C hx hCl ?_ hC hn2 hn (by omega) ?_
  · intro j u hj
    exact news_obj (obj1_new wr C.toArray T) j u hj
  · intro v' w' hown' hgrow _
    refine h v' w' hown' (fun W hB => ?_) (Nat.le_trans (by omega) hgrow.size)
    refine (hB.alloc hbase _).grown hgrow (by omega) ?_
    intro k hk
    obtain ⟨_, h2⟩ := hown
    rcases h2 with ⟨rfl, _⟩ | ⟨g, cap, cur, rfl, hg, _⟩
    · simp [Value.ownBlock] at hk
    · simp [Value.ownBlock] at hk; omega
theorem owns_empty3 (w : World) (T : TypeId) (size : Nat) : (w.alloc (.cells #[] T)).ownsRow w.heap.size T size (.slice (some ⟨w.heap.size, 0, none⟩) 0 0) 0 [] :=
  ⟨by simp, Or.inr ⟨w.heap.size, 0, #[], rfl, Nat.le_refl _, heap_alloc_new w _, Nat.le_refl _, Nat.zero_le _, by simp, by simp⟩⟩
/-- The first entries of a table. -/
def colsL (s : ByteArray) (k : Nat) : Nat → List Value
  | 0 => []
  | m + 1 => colsL s k m ++ entC (s.extract (m * k) s.size)
def Read10Post (w : World) (s : ByteArray) (k m : Nat) (e : Ending) (w' : World) : Prop := ∃ v, e = .returned v ∧ w'.ownsRow w.heap.size 41 4 v m (colsL s k m) ∧ Below w.heap.size w w'
set_option maxRecDepth 100000 in
set_option maxHeartbeats 4000000 in
theorem read10_any (s : ByteArray) (n k m : Nat) (w : World) (hk : k = 3 ∨ k = 4) (hn : n ≤ 1000000) (hs : s.size ≤ 9223372036854775807) (hm : m ≤ n) (hm2 : m * k ≤ s.size) (hend : m = n ∨ s.size < m * k + k) :
    Calls Try.prog 47 #[.string s, .int .i64 n, .int .i64 k] w (Read10Post w s k m) := by
  have HSZ := Lib.hid (fun w0 => (show Calls Try.prog 84 #[.int .i64 k] w0 fun e w' => e = .returned (.int .i64 k) ∧ w' = w0 by
    rcases hk with rfl | rfl
    · exact size10_3 w0
    · exact size10_4 w0))
  have HEN := Lib.hid (fun t w0 (ht : 3 ≤ t.size) => entry10_any t k w0 ht (by omega))
  have HEND := Lib.hid hend
  have hO := owns_empty3 w 41 4
  have HK := Lib.hid hk
  have hk4 : k ≤ 4 := by omega
  have hk3 : 3 ≤ k := by omega
  clear hend hk
  go_enter Try.func47, Try.ntmps47
  go_wp2_with ((go_at_call 84; (with_reducible refine (HSZ.out _).mono ?_); rintro e w2 ⟨rfl, rfl⟩))
  go_loopw [7, 9] (fun v c wr => ∃ i : Nat, i ≤ m ∧ c = .int .i64 i ∧ wr.ownsRow w.heap.size 41 4 v i (colsL s k i) ∧ Below w.heap.size w wr) (fun _ c _ => m - (intOf c).toNat)
  case atStart => exact ⟨0, by omega, by first | rfl | simp, hO, (Below.refl _ _).alloc (Nat.le_refl _) _⟩
  case round =>
    obtain ⟨i, hi, rfl, hown, hb⟩ := hrel
    have HO := Lib.hid hown
    have HB := Lib.hid hb
    have hsz := hb.size
    clear hown hb hO
    have hik : i * k ≤ m * k := Nat.mul_le_mul_right k hi
    obtain ⟨q, hq⟩ : ∃ q, i * k = q := ⟨_, rfl⟩
    have eM : (i : Int) * (k : Int) = (q : Int) := by rw [← hq]; exact (Int.natCast_mul i k).symm
    have hq4 : q ≤ 4000000 := by rw [← hq]; exact Nat.le_trans (Nat.mul_le_mul (show i ≤ 1000000 by omega) hk4) (by decide)
    have eW : IntKind.i64.wrap ((i : Int) * (k : Int)) = (q : Int) := by rw [eM]; exact i64_wraps _ (by omega) (by omega)
    have eS : IntKind.i64.wrap ((s.size : Int) - (q : Int)) = (s.size : Int) - q := i64_wraps _ (by omega) (by omega)
    by_cases hlt : i < m
    rotate_left
    · obtain rfl : i = m := by omega
      rw [hq] at HEND hm2
      clear hlt hi
      by_cases hin : i < n
      · have T2 : ¬ ((k : Int) ≤ (s.size : Int) - q) := by have := HEND.out; omega
        have T3 : (s.size : Int) - q < k := by omega
        clear hm2
        go_wp2_with ((with_reducible refine skip_g rfl ?_ ?_); rfl; intro _)
        go_ret
        exact ⟨_, rfl, HO.out, HB.out⟩
      · go_wp2_with ((with_reducible refine skip_g rfl ?_ ?_); rfl; intro _)
        go_ret
        exact ⟨_, rfl, HO.out, HB.out⟩
    · have h1 : i + 1 ≤ m := hlt
      have h2 := Nat.mul_le_mul_right k h1
      rw [Nat.add_mul, Nat.one_mul, hq] at h2
      have hqs : q + k ≤ s.size := by omega
      have T1 : i < n := by omega
      have T2 : (k : Int) ≤ (s.size : Int) - q := by omega
      have T3 : (q : Int) ≤ s.size := by omega
      have hes : 3 ≤ (s.extract q s.size).size := by rw [ByteArray.size_extract]; omega
      have HE := Lib.hid (fun w0 => (show Calls Try.prog 85 #[.string (s.extract q s.size), .int .i64 k] w0 (RA w0 [.int .u8 (byN (s.extract q s.size) 2), .int .u8 (byN (s.extract q s.size) 1), .int .u8 (byN (s.extract q s.size) 0), .int .u8 255]) from HEN.out _ w0 hes))
      have HCS := Lib.hid (show colsL s k (i + 1) = colsL s k i ++ [.int .u8 (byN (s.extract q s.size) 2), .int .u8 (byN (s.extract q s.size) 1), .int .u8 (byN (s.extract q s.size) 0), .int .u8 255] by rw [colsL, hq]; rfl)
      clear hes h1 h2 hik
      go_wp2_with (first
        | ((go_at_call 85; (with_reducible refine (HE.out _).mono ?_); rintro e w5 ⟨rfl, hb5⟩); have HO5 := Lib.hid (owns_under HO.out hb5); have HB5 := Lib.hid (bthen hb5 HB.out HB.out.size); have hsz5 := HB5.out.size; clear hb5)
        | (at_builtin; refine appS rfl (.tmp 28) (.tmp 36) 33 rfl w.heap.size 41 (.agg #[.int .u8 0, .int .u8 0, .int .u8 0, .int .u8 0]) 4 4 Try.underlying33 (by kernel_rfl) rfl (by decide) _ _ _ rfl HO5.out [.int .u8 (byN (s.extract q s.size) 2), .int .u8 (byN (s.extract q s.size) 1), .int .u8 (byN (s.extract q s.size) 0), .int .u8 255] (by intro u hu; simp at hu; rcases hu with rfl | rfl | rfl | rfl <;> rfl) rfl _ rfl (by omega) (by unfold maxLen; omega) hsz5 ?_; intro v' w1 hown1 hB1 hz1; have O1 := Lib.hid hown1; have B1 := Lib.hid hB1; clear hown1 hB1))
      go_roundw
      case rel => exact ⟨i + 1, by omega, by go_num, by rw [HCS.out]; exact O1.out, B1.out w HB5.out⟩
      case measure => simp [intOf]; omega
end Go.Proofs.Ytlhcjnjajkfahaa


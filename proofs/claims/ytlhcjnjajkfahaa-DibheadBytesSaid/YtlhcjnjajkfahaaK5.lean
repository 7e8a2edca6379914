/- Numbers of bytes: the source's readers, and the document's numbers. -/
import Derived.Test.YtlhcjnjajkfahaaK4
import Derived.Lib.EndianBits
import Derived.Test.YtlhcjnjajkfahaaK1
import Derived.StillTail
import Derived.StillTailTactics
import Derived.Deep.Quiet
import Derived.BigQuiet
namespace Go.Proofs.Ytlhcjnjajkfahaa
open Go.RowKit
set_option linter.unusedVariables false
/-- The byte at a place. -/
def byN (s : ByteArray) (i : Nat) : Int := (s.data.toList.getD i 0).toNat
theorem byN_bd (s : ByteArray) (i : Nat) : 0 ≤ byN s i ∧ byN s i < 256 := by
  unfold byN; have := (s.data.toList.getD i 0).toNat_lt; omega
theorem byN_get (s : ByteArray) (i : Nat) (h : i < s.size) : ((s[i]).toNat : Int) = byN s i := by
  unfold byN
  rw [List.getD_eq_getElem?_getD, List.getElem?_eq_getElem (by simpa using h)]
  rfl
/-- The number of the first k bytes, the lowest first; the highest first. -/
def loK (s : ByteArray) : Nat → Int
  | 0 => 0
  | k + 1 => loK s k + byN s k * 2 ^ (8 * k)
def hiK (s : ByteArray) : Nat → Int
  | 0 => 0
  | k + 1 => hiK s k * 256 + byN s k
theorem pow8 (k : Nat) : (2 : Int) ^ (8 * (k + 1)) = 256 * 2 ^ (8 * k) := by
  rw [show 8 * (k + 1) = 8 * k + 8 by omega, Int.pow_add]; have : (2 : Int) ^ 8 = 256 := by decide
  rw [this, Int.mul_comm]
theorem loK_bd (s : ByteArray) (k : Nat) : 0 ≤ loK s k ∧ loK s k < 2 ^ (8 * k) := by
  induction k with
  | zero => simp [loK]
  | succ k ih =>
    have hb := byN_bd s k
    have hp := pow_pos' (8 * k)
    have h0 : 0 ≤ byN s k * 2 ^ (8 * k) := Int.mul_nonneg hb.1 (by omega)
    have h1 : byN s k * 2 ^ (8 * k) ≤ 255 * 2 ^ (8 * k) := Int.mul_le_mul_of_nonneg_right (by omega) (by omega)
    rw [pow8, loK]; omega
theorem hiK_bd (s : ByteArray) (k : Nat) : 0 ≤ hiK s k ∧ hiK s k < 2 ^ (8 * k) := by
  induction k with
  | zero => simp [hiK]
  | succ k ih =>
    have hb := byN_bd s k
    rw [pow8, hiK]; omega
theorem i64_wraps (n : Int) (h₀ : 0 ≤ n) (h₁ : n < 2 ^ 63) : IntKind.i64.wrap n = n := i64_wrap_id n h₀ h₁
theorem or_low (i : Nat) (v y : Int) (h0 : 0 ≤ v) (h1 : v < 2 ^ i) (hy : 0 ≤ y) (h2 : v + y * 2 ^ i < 2 ^ 62) : bits .or .i64 v (y * 2 ^ i) = v + y * 2 ^ i := by
  have hp := pow_pos' i
  have hm := Int.mul_nonneg hy (Int.le_of_lt hp)
  have h63 : (2 : Int) ^ 63 = 9223372036854775808 := by decide
  have h62 : (2 : Int) ^ 62 = 4611686018427387904 := by decide
  exact bits_join_low .i64 63 (by decide) i64_wraps i v _ h0 h1 (by omega) hm (Int.mul_emod_left _ _) (by omega)
theorem or_high (i : Nat) (v y : Int) (h0 : 0 ≤ v) (h1 : v < 2 ^ i) (hy : 0 ≤ y) (h2 : v + y * 2 ^ i < 2 ^ 62) : bits .or .i64 (y * 2 ^ i) v = y * 2 ^ i + v := by
  have hp := pow_pos' i
  have hm := Int.mul_nonneg hy (Int.le_of_lt hp)
  have h63 : (2 : Int) ^ 63 = 9223372036854775808 := by decide
  have h62 : (2 : Int) ^ 62 = 4611686018427387904 := by decide
  exact bits_join .i64 63 (by decide) i64_wraps i _ v hm (Int.mul_emod_left _ _) (by omega) h0 h1 (by omega)
theorem pow32 (k : Nat) (h : k ≤ 3) : (1 : Int) ≤ 2 ^ (8 * k) ∧ (2 : Int) ^ (8 * k) ≤ 16777216 := by
  have h1 := pow_pos' (8 * k)
  have h2 := pow_le' (show 8 * k ≤ 24 by omega)
  have h3 : (2 : Int) ^ 24 = 16777216 := by decide
  omega
theorem lo_round (s : ByteArray) (k : Nat) (h : k ≤ 3) : bits .or .i64 (loK s k) (wrap64 (wrap64 (byN s k) * 2 ^ (8 * k))) = loK s (k + 1) := by
  have hb := byN_bd s k
  have hl := loK_bd s k
  have hp := pow32 k h
  have h0 : 0 ≤ byN s k * 2 ^ (8 * k) := Int.mul_nonneg hb.1 (by omega)
  have h1 : byN s k * 2 ^ (8 * k) ≤ 255 * 2 ^ (8 * k) := Int.mul_le_mul_of_nonneg_right (by omega) (by omega)
  have h62 : (2 : Int) ^ 62 = 4611686018427387904 := by decide
  rw [IntWalk.wrap64_in (byN s k) (by omega), IntWalk.wrap64_in _ (by omega), or_low (8 * k) _ _ hl.1 hl.2 hb.1 (by omega)]
  rfl
theorem hi_round (s : ByteArray) (k : Nat) (h : k ≤ 3) : bits .or .i64 (hiK s k * 256) (wrap64 (byN s k)) = hiK s (k + 1) := by
  have hb := byN_bd s k
  have hl := hiK_bd s k
  have hp := pow32 k h
  have h62 : (2 : Int) ^ 62 = 4611686018427387904 := by decide
  have h8 : (2 : Int) ^ 8 = 256 := by decide
  have := or_high 8 (byN s k) (hiK s k) hb.1 (by omega) hl.1 (by omega)
  rw [h8] at this
  rw [IntWalk.wrap64_in (byN s k) (by omega), this]; rfl
/-! ### the document's numbers -/
theorem rle_any (s : ByteArray) (w : World) (hs : s.size ≤ 4) : Calls Try.prog 41 #[.string s] w fun e w' => e = .returned (.int .i64 (loK s s.size)) ∧ w = w' := by
  go_enter Try.func41, Try.ntmps41
  go_wp2
  go_loop [3, 4] (fun v i => ∃ k : Nat, ∃ V : Int, k ≤ s.size ∧ i = .int .i64 ((k : Int) - 1) ∧ v = .int .i64 V ∧ 0 ≤ V ∧ V < 2 ^ (8 * (s.size - k)) ∧ loK s s.size = loK s k + V * 2 ^ (8 * k)) (fun _ i => (intOf i + 1).toNat)
  case atStart => exact ⟨s.size, 0, by omega, rfl, rfl, by omega, by rw [Nat.sub_self]; decide, by omega⟩
  case round =>
    obtain ⟨k, V, hk, rfl, rfl, h0, h1, h2⟩ := hrel
    have H2 := Lib.hid h2
    have H1 := Lib.hid h1
    clear h2
    by_cases hlt : 1 ≤ k
    · obtain ⟨k, rfl⟩ : ∃ m, k = m + 1 := ⟨k - 1, by omega⟩
      have hb := byN_bd s k
      have hkl : k < s.size := by omega
      have hV : V ≤ 16777216 := by have := pow32 (s.size - (k + 1)) (by omega); omega
      have e1 : (((k + 1 : Nat) : Int) - 1) = (k : Int) := by omega
      rw [e1]
      clear h1 e1
      go_wp2
      go_round
      case rel =>
        refine ⟨k, V * 256 + byN s k, by omega, by go_num, ?_, by omega, ?_, ?_⟩
        · rw [byN_get s k hkl, IntWalk.wrap64_in (byN s k) (by omega), IntWalk.wrap64_in _ (by omega), Int.mul_comm]
        · rw [show s.size - k = (s.size - (k + 1)) + 1 by omega, pow8]; have := H1.out; omega
        · rw [H2.out, pow8, loK, Int.add_mul, Int.mul_assoc, Int.add_assoc, Int.add_comm (V * _)]
      case measure => simp [intOf]
    · obtain rfl : k = 0 := by omega
      have E := Lib.hid (show V = loK s s.size by rw [H2.out, loK]; simp)
      clear h1
      go_wp2
      go_ret
      exact ⟨ret_int E.out, rfl⟩
end Go.Proofs.Ytlhcjnjajkfahaa

/- The source's readers of numbers; windows. -/
namespace Go.Proofs.Ytlhcjnjajkfahaa
open Go.RowKit
set_option linter.unusedVariables false
def numB (s : ByteArray) (low : Bool) : Int := if low = true then loK s s.size else hiK s s.size
theorem numB_bd (s : ByteArray) (low : Bool) : 0 ≤ numB s low ∧ numB s low < 2 ^ (8 * s.size) := by
  unfold numB
  cases low
  · exact hiK_bd s _
  · exact loK_bd s _
theorem next_size (x : Sr) (l : Led) (n : Int) (h : 0 ≤ n) : ((x.next l n).2.1.size : Int) ≤ n := by
  unfold Sr.next
  split
  · simp only [ByteArray.size_extract]; omega
  · simpa using h
def NumPost (w : World) (X : Nat) (x y : Sr) (m : Led) (v : Int) (ok : Bool) (e : Ending) (w' : World) : Prop := e = .returned (.tuple #[.int .i64 v, .bool ok]) ∧ Pair w' X y m ∧ Chg (two X x) w w'
abbrev NumOf (w : World) (X : Nat) (x : Sr) (l : Led) (n : Int) (low : Bool) : Ending → World → Prop := NumPost w X x (x.next l n).1.1 (x.next l n).1.2 (numB (x.next l n).2.1 low) (x.next l n).2.2
/-- Four bytes with a sign. -/
def signed (v : Int) : Int := if 2147483648 ≤ v then v - 4294967296 else v
theorem signed_wrap (v : Int) (h0 : 0 ≤ v) (h1 : v < 4294967296) : wrap64 (wrap32 (v % 4294967296)) = signed v := by
  unfold wrap64 wrap32 signed; split <;> omega
theorem ret_num {a b : Int} {ok : Bool} (h : a = b) : Ending.returned (.tuple #[.int .i64 a, .bool ok]) = Ending.returned (.tuple #[.int .i64 b, .bool ok]) := by rw [h]
abbrev SgnOf (w : World) (X : Nat) (x : Sr) (l : Led) : Ending → World → Prop := NumPost w X x (x.next l 4).1.1 (x.next l 4).1.2 (signed (numB (x.next l 4).2.1 true)) (x.next l 4).2.2
theorem next_ok {x : Sr} {l : Led} {n : Int} (h : (x.next l n).2.2 = true) : (l.work 1).2 = true ∧ 0 ≤ n ∧ n ≤ (x.e : Int) - x.p ∧ (x.next l n).1.1 = { x with p := x.p + n.toNat } ∧ (x.next l n).1.2 = (l.work 1).1 ∧ (x.next l n).2.1 = x.s.extract x.p (x.p + n.toNat) := by
  unfold Sr.next at h ⊢
  by_cases hc : (l.work 1).2 = true ∧ 0 ≤ n ∧ n ≤ (x.e : Int) - x.p
  · rw [if_pos hc]; exact ⟨hc.1, hc.2.1, hc.2.2, rfl, rfl, rfl⟩
  · rw [if_neg hc] at h; simp at h
theorem next_bad {x : Sr} {l : Led} {n : Int} (h : (x.next l n).2.2 = false) : (x.next l n).1.1 = x ∧ (x.next l n).1.2 = (l.work 1).1 ∧ (x.next l n).2.1 = ByteArray.empty ∧ ¬ ((l.work 1).2 = true ∧ 0 ≤ n ∧ n ≤ (x.e : Int) - x.p) := by
  unfold Sr.next at h ⊢
  by_cases hc : (l.work 1).2 = true ∧ 0 ≤ n ∧ n ≤ (x.e : Int) - x.p
  · rw [if_pos hc] at h; simp at h
  · rw [if_neg hc]; exact ⟨rfl, rfl, rfl, hc⟩
abbrev PeekOf (w : World) (X : Nat) (x : Sr) (l : Led) : Ending → World → Prop := NumPost w X x x (x.next l 1).1.2 (numB (x.next l 1).2.1 true) (x.next l 1).2.2
/-! ### windows -/
def Sr.winB (x : Sr) (a n : Int) : Prop := (x.b : Int) ≤ a ∧ a ≤ x.e ∧ 0 ≤ n ∧ n ≤ (x.e : Int) - a
end Go.Proofs.Ytlhcjnjajkfahaa

/- tgahead: the small functions. -/
namespace Go.Proofs.Ytlhcjnjajkfahaa
open Go.RowKit
set_option linter.unusedVariables false
set_option linter.unusedSimpArgs false
theorem ret_b {a b : Bool} (h : a = b) : Ending.returned (.bool a) = Ending.returned (.bool b) := by rw [h]
theorem ret_i {a b : Int} (h : a = b) : Ending.returned (.int .i64 a) = Ending.returned (.int .i64 b) := by rw [h]
def packB (k : Int) : Bool := decide (9 ≤ k) && decide (k ≤ 11)
def plainI (k : Int) : Int := if packB k = true then k - 8 else k
def colB (n : Int) : Bool := n == 15 || (n == 16 || (n == 24 || n == 32))
def depB (k n : Int) : Bool := if plainI k = 2 then colB n else n == 8
def alpB (b n : Int) : Bool := n == 0 || ((b == 32 && n == 8) || (b == 16 && n == 1))
theorem packed_any (k : Int) (w : World) : Calls Try.prog 113 #[.int .i64 k] w fun e w' => e = .returned (.bool (packB k)) ∧ w' = w := by
  go_enter Try.func113, Try.ntmps113
  go_wp2
  all_goals (go_ret; exact ⟨ret_b (by unfold packB; simp <;> omega), rfl⟩)
theorem plain_any (k : Int) (w : World) (h0 : 0 ≤ k) (h1 : k ≤ 255) : Calls Try.prog 112 #[.int .i64 k] w fun e w' => e = .returned (.int .i64 (plainI k)) ∧ w' = w := by
  have HP := Lib.hid (fun w0 => packed_any k w0)
  obtain ⟨b, hb⟩ : ∃ b, packB k = b := ⟨_, rfl⟩
  rw [hb] at HP
  go_enter Try.func112, Try.ntmps112
  cases b
  all_goals go_wp2_with (go_at_call 113; (with_reducible refine (HP.out _).mono ?_); rintro e w1 ⟨rfl, rfl⟩)
  all_goals (go_ret; exact ⟨ret_i (by unfold plainI; rw [hb]; simp [wrap64]; try omega), rfl⟩)
theorem colors_any (n : Int) (w : World) : Calls Try.prog 115 #[.int .i64 n] w fun e w' => e = .returned (.bool (colB n)) ∧ w' = w := by
  go_enter Try.func115, Try.ntmps115
  by_cases h1 : n = 15
  · subst h1; go_wp2; go_ret; exact ⟨rfl, rfl⟩
  by_cases h2 : n = 16
  · subst h2; go_wp2; go_ret; exact ⟨rfl, rfl⟩
  by_cases h3 : n = 24
  · subst h3; go_wp2; go_ret; exact ⟨rfl, rfl⟩
  have e1 : (n == 15) = false := by simpa using h1
  have e2 : (n == 16) = false := by simpa using h2
  have e3 : (n == 24) = false := by simpa using h3
  go_wp2
  go_ret
  exact ⟨ret_b (by unfold colB; rw [e1, e2, e3]; simp), rfl⟩
theorem rcolor_any (n : Int) (w : World) : Calls Try.prog 94 #[.int .i64 n] w fun e w' => e = .returned (.bool (colB n)) ∧ w' = w := by
  go_enter Try.func94, Try.ntmps94
  by_cases h1 : n = 15
  · subst h1; go_wp2; go_ret; exact ⟨rfl, rfl⟩
  by_cases h2 : n = 16
  · subst h2; go_wp2; go_ret; exact ⟨rfl, rfl⟩
  by_cases h3 : n = 24
  · subst h3; go_wp2; go_ret; exact ⟨rfl, rfl⟩
  have e1 : (n == 15) = false := by simpa using h1
  have e2 : (n == 16) = false := by simpa using h2
  have e3 : (n == 24) = false := by simpa using h3
  go_wp2
  go_ret
  exact ⟨ret_b (by unfold colB; rw [e1, e2, e3]; simp), rfl⟩
theorem depth_any (k n : Int) (w : World) (h0 : 0 ≤ k) (h1 : k ≤ 255) : Calls Try.prog 116 #[.int .i64 k, .int .i64 n] w fun e w' => e = .returned (.bool (depB k n)) ∧ w' = w := by
  have HP := Lib.hid (fun w0 => plain_any k w0 h0 h1)
  have HC := Lib.hid (fun w0 => colors_any n w0)
  obtain ⟨p, hp⟩ : ∃ p, plainI k = p := ⟨_, rfl⟩
  rw [hp] at HP
  go_enter Try.func116, Try.ntmps116
  by_cases h2 : p = 2
  · subst h2
    go_wp2_with (first | (go_at_call 112; (with_reducible refine (HP.out _).mono ?_); rintro e w1 ⟨rfl, rfl⟩) | (go_at_call 115; (with_reducible refine (HC.out _).mono ?_); rintro e w1 ⟨rfl, rfl⟩))
    go_ret
    exact ⟨ret_b (by unfold depB; rw [if_pos hp]), rfl⟩
  · have e2 : (p == 2) = false := by simpa using h2
    go_wp2_with (first | (go_at_call 112; (with_reducible refine (HP.out _).mono ?_); rintro e w1 ⟨rfl, rfl⟩) | (go_at_call 115; (with_reducible refine (HC.out _).mono ?_); rintro e w1 ⟨rfl, rfl⟩))
    go_ret
    exact ⟨ret_b (by unfold depB; rw [hp, if_neg h2]), rfl⟩
theorem alpha_any (b n : Int) (w : World) : Calls Try.prog 117 #[.int .i64 b, .int .i64 n] w fun e w' => e = .returned (.bool (alpB b n)) ∧ w' = w := by
  go_enter Try.func117, Try.ntmps117
  by_cases h1 : b = 32
  · subst h1
    by_cases h2 : n = 0
    · subst h2; go_wp2; go_ret; exact ⟨rfl, rfl⟩
    · have e2 : (n == 0) = false := by simpa using h2
      go_wp2; go_ret; exact ⟨ret_b (by unfold alpB; simp [e2]), rfl⟩
  have e1 : (b == 32) = false := by simpa using h1
  by_cases h3 : b = 16
  · subst h3
    by_cases h2 : n = 0
    · subst h2; go_wp2; go_ret; exact ⟨rfl, rfl⟩
    · have e2 : (n == 0) = false := by simpa using h2
      go_wp2; go_ret; exact ⟨ret_b (by unfold alpB; simp [e2]), rfl⟩
  have e3 : (b == 16) = false := by simpa using h3
  go_wp2; go_ret; exact ⟨ret_b (by unfold alpB; simp [e1, e3]), rfl⟩
theorem or_word (a b : Int) (h0 : 0 ≤ a) (h1 : a < 256) (h2 : 0 ≤ b) (h3 : b < 256) : bits .or .i64 (wrap64 a) (wrap64 (wrap64 b * 256)) = a + b * 256 := by
  rw [IntWalk.wrap64_in a (by omega), IntWalk.wrap64_in b (by omega), IntWalk.wrap64_in (b * 256) (by omega)]
  have := or_low 8 a b h0 (by omega) h2 (by omega)
  simpa using this
def wordN (s : ByteArray) (a : Nat) : Int := byN s a + byN s (a + 1) * 256
theorem wordN_bd (s : ByteArray) (a : Nat) : 0 ≤ wordN s a ∧ wordN s a < 65536 := by
  unfold wordN; have := byN_bd s a; have := byN_bd s (a + 1); omega
theorem word_any (s : ByteArray) (a : Nat) (w : World) (h : a + 1 < s.size) (hs : s.size ≤ 1000) : Calls Try.prog 114 #[.string s, .int .i64 a] w fun e w' => e = .returned (.int .i64 (wordN s a)) ∧ ∃ k, w' = w.drewN k := by
  have b1 := byN_bd s a
  have b2 := byN_bd s (a + 1)
  have H1 := Lib.hid (byN_get s a (by omega))
  have H2 := Lib.hid (byN_get s (a + 1) h)
  have h0 : a < s.size := by omega
  have i3 : ((a : Int) + 1).toNat = a + 1 := by omega
  have i4 : (0 : Int) ≤ (a : Int) + 1 := by omega
  have i5 : (a : Int) + 1 < s.size := by omega
  have eW : IntKind.i64.wrap ((a : Int) + 1) = (a : Int) + 1 := i64_wraps _ (by omega) (by omega)
  go_enter Try.func114, Try.ntmps114
  go_wp2
  go_quiet (fail)
  go_wp2
  go_ret
  exact ⟨ret_i (by rw [H1.out, H2.out, or_word _ _ b1.1 b1.2 b2.1 b2.2]; rfl), _, rfl⟩
theorem word_at (s : ByteArray) (a : Nat) (i V : Int) (w : World) (hi : i = a) (hV : wordN s a = V) (h : a + 1 < s.size) (hs : s.size ≤ 1000) : Calls Try.prog 114 #[.string s, .int .i64 i] w fun e w' => e = .returned (.int .i64 V) ∧ ∃ k, w' = w.drewN k := by
  subst hi; subst hV; exact word_any s a w h hs
end Go.Proofs.Ytlhcjnjajkfahaa

/- A region that draws its order: all operations but the last few only read or call quietly (draws allowed); the last few come in one forced order and may write. The theory of Derived.Deep.Quiet and Derived.StillTail, put together. No program in sight. -/
namespace Go
section
variable {P : Program} {ops : Array Oper} {md : Region.Mode} {C : World → Prop}
/-- Whatever order is picked among the first n: behind them L holds, in the frame that the walk left. -/
def headQ (P : Program) (md : Region.Mode) (ops : Array Oper) (C : World → Prop) (n : Nat) (L : Array Bool → Act → Prop) : Nat → Array Bool → Act → Prop
  | 0, listed, a => L listed a
  | f + 1, listed, a => Region.ready md ops listed ≠ [] ∧ ∀ i ∈ Region.ready md ops listed, i < n ∧ qOp P ops C i (headQ P md ops C n L f (listed.setIfInBounds i true)) a
theorem headQ_any {n g : Nat} {L : Array Bool → Act → Prop} {Q' : Exit → Act → World → Prop} (hL : ∀ listed a w, C w → L listed a → wpAny P md ops Q' g listed a w) :
    ∀ (f : Nat) (listed : Array Bool) (a : Act) (w : World), C w → headQ P md ops C n L f listed a → wpAny P md ops Q' (f + g) listed a w
  | 0, listed, a, w, hw, h => by rw [Nat.zero_add]; exact hL _ _ _ hw h
  | f + 1, listed, a, w, hw, h => by
    rw [show f + 1 + g = (f + g) + 1 by omega]
    exact ⟨fun h0 => absurd h0 h.1, fun i hi => wpOp_of_qOp hw (fun a' w' hw' h' => headQ_any hL f _ a' w' hw' h') (h.2 i hi).2⟩
theorem headQ_first {n i : Nat} {oi : Oper} {v : Value} {L : Array Bool → Act → Prop} (hi : ops[i]? = some oi) (hsel : ∀ (j : Nat) (o : Oper) cs b, ops[j]? = some o → o.op ≠ .select cs b)
    (hs : Region.sinkB md ops n = true) (hc : Region.chainB md ops n = true) (hn : n < ops.size) (hin : i < n)
    (hdone : ∀ listed a, L listed a → ∀ j ∈ Region.ready md ops listed, n ≤ j) :
    ∀ (f : Nat) (listed : Array Bool) (a : Act), HeadInv md ops n listed →
      (∀ j oj, ops[j]? = some oj → j ≠ i → listed.getD j true = false → (∀ e ∈ oj.after, Region.binds md e = true → e.on ≠ i) → oi.apart ops oj = true) →
      i ∈ Region.ready md ops listed → YieldsIn P ops C oi v a →
      headQ P md ops C n L f (listed.setIfInBounds i true) (a.put oi.dst v) → headQ P md ops C n L (f + 1) listed a := by
  intro f
  induction f with
  | zero =>
    intro listed a inv _ hr hy H
    have hun := (mem_ready.1 hr).1
    refine ⟨fun h => (by rw [h] at hr; cases hr), fun j hj => ?_⟩
    have hjn : j < n := Nat.lt_of_not_le fun h => tail_waits hs hc hn inv _ i rfl hin hun j h hj
    refine ⟨hjn, ?_⟩
    by_cases hji : j = i
    · subst hji; exact hy.qOp hi H
    · have := hdone _ _ H j (ready_mono hj hji)
      omega
  | succ f ih =>
    intro listed a inv hfree hr hy H
    have hun := (mem_ready.1 hr).1
    refine ⟨fun h => (by rw [h] at hr; cases hr), fun j hj => ?_⟩
    have hjn : j < n := Nat.lt_of_not_le fun h => tail_waits hs hc hn inv _ i rfl hin hun j h hj
    refine ⟨hjn, ?_⟩
    by_cases hji : j = i
    · subst hji; exact hy.qOp hi H
    · have h1 := (H.2 j (ready_mono hj hji)).2
      obtain ⟨hjun, oj, hoj, hall⟩ := mem_ready.1 hj
      have hnot : ∀ e ∈ oj.after, Region.binds md e = true → e.on ≠ i := fun e he hb heq => by
        have h1 := hall e he hb
        rw [heq, getD_both hun] at h1
        cases h1
      have h2 := qOp_put hoj (hfree j oj hoj hji hjun hnot) (fun cs b => hsel i oi cs b hi) (fun cs b => hsel j oj cs b hoj) hy h1
      refine qOp_mono (fun a' h3 => ih (listed.setIfInBounds j true) a' (inv.set hj hjn) (fun k ok hk hki hku hno => hfree k ok hk hki ?_ hno) (ready_mono hr (Ne.symm hji)) h3.1 ?_) h2
      · by_cases hjk : j = k
        · subst hjk; exact hjun
        · rw [getD_set_ne true hjk] at hku; exact hku
      · rw [Array.setIfInBounds_comm _ _ hji]
        exact h3.2
theorem headQ_lex {n g : Nat} {Lq : Act → Prop} (hsel : Region.noSelect ops = true) (hs : Region.sinkB md ops n = true) (hc : Region.chainB md ops n = true) (hn : n < ops.size) :
    ∀ (l : List Oper) (k : Nat) (listed : Array Bool) (a : Act), (∀ j, j < l.length → l[j]? = ops[k + j]?) → k + l.length = n → HeadInv md ops n listed →
    Region.lexHead md ops g l.length k listed = true → wpQuiet P ops C Lq l a →
    headQ P md ops C n (fun listed' a' => Region.seqB md ops g n listed' = true ∧ Lq a') l.length listed a
  | [], k, listed, a, _, hk, _, hB, h => by
    have : k = n := by simpa using hk
    subst this
    exact ⟨by simpa [Region.lexHead] using hB, h⟩
  | o :: l, k, listed, a, hl, hk, inv, hB, h => by
    have h0 : ops[k]? = some o := by simpa using (hl 0 (by simp)).symm
    simp only [List.length_cons, Region.lexHead, Bool.and_eq_true] at hB
    obtain ⟨⟨hr, hf⟩, hB'⟩ := hB
    have hkn : k < n := by simp only [List.length_cons] at hk; omega
    have hr' : k ∈ Region.ready md ops listed := by simpa using hr
    have hst : qOp P ops C k (wpQuiet P ops C Lq l) a := by unfold qOp; simp only [h0]; exact h
    obtain ⟨v, hy, hK⟩ := yieldsIn_of_qOp h0 hst
    exact headQ_first h0 (Region.noSelect_spec hsel) hs hc hn hkn (fun listed' a' hL => seqB_ready hL.1) l.length listed a inv (Region.free_spec h0 hf) hr' hy
      (headQ_lex hsel hs hc hn l (k + 1) _ _ (fun j hj => by have := hl (j + 1) (by simp; omega); simpa [Nat.add_assoc, Nat.add_comm 1 j] using this) (by simp only [List.length_cons] at hk; omega) (inv.set hr' hkn) hB' hK)
theorem wp_region_quiet_tail {id : Nat} {Q : Exit → Act → World → Prop} {a : Act} {w : World} {l : List Oper} (n : Nat) (hm : P.follows .mixedOrders = true) (hB : Region.lexTailB .any l.toArray n = true)
    (h : wpQuiet P l.toArray (fun w' => ∃ k, w' = w.drewN k) (fun a' => ∀ w', (∃ k, w' = w.drewN k) → wpList P l.toArray Q (l.drop n) a' w') (l.take n) a) : (Code.region id l.toArray true).wp P Q a w := by
  simp only [Region.lexTailB, Bool.and_eq_true, decide_eq_true_eq] at hB
  obtain ⟨⟨⟨⟨hsel, hn⟩, hs⟩, hc⟩, hlex⟩ := hB
  have hn' : n < l.length := by simpa using hn
  have htl : (l.take n).length = n := by simp; omega
  have hdl : (l.drop n).length = l.toArray.size - n := by simp
  have inv0 : HeadInv .any l.toArray n (Array.replicate l.toArray.size false) :=
    ⟨by simp, fun j oj _ hl => (by rw [getD_replicate_false] at hl; cases hl), fun t _ ht => getD_in (by simpa using ht) (getD_replicate_false _ _)⟩
  have H := headQ_lex (md := .any) (g := l.toArray.size - n) hsel hs hc hn (l.take n) 0 _ a (fun j hj => by
    have hj' : j < n := by rw [htl] at hj; exact hj
    simp [hj']) (by simpa using htl) inv0 (by rw [htl]; exact hlex) h
  refine wp_region_any hm ?_
  have := headQ_any (Q' := Q) (g := l.toArray.size - n) (fun listed a' w' hw' hL => by
    have := wpAny_of_seq (md := .any) (Q' := Q) (l.drop n) n listed a' w' (fun j => by simp [List.getElem?_drop]) (by rw [hdl]; exact hL.1) (hL.2 w' hw')
    rwa [hdl] at this) _ _ _ _ ⟨1, rfl⟩ H
  rw [htl, show n + (l.toArray.size - n) = l.toArray.size by omega] at this
  exact this
end
end Go

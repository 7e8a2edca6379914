/- Whole structs loaded and stored, the value an opaque list of cells. No program in sight. -/
import Derived.Test.YtlfbaggcfaenlaaGreatK0
import Derived.Lib.EndianBits
import Derived.StillTail
import Derived.StillTailTactics
import Derived.Deep.Quiet
import Derived.BigQuiet
import Derived.Deep.CutRange
import Derived.Deep.RegionHeld3
namespace Go.Proofs.YtlfbaggcfaenlaaGreat
open Go.RowKit
set_option linter.unusedVariables false
theorem Obj1.there {w : World} {b : Nat} {cs : Array Value} {T : TypeId} (h : Obj1 w b cs T) (o n : Nat) (hn : o + n ≤ cs.size) : w.there b o n := fun j hj => by
  refine ⟨?_, h.frozen _⟩
  rw [h.cell, Array.getElem?_eq_getElem (by omega)]; rfl
theorem Obj1.range0 {w : World} {b : Nat} {cs : List Value} {T : TypeId} (h : Obj1 w b cs.toArray T) : w.rangeAt b 0 cs := fun j v hv => by
  rw [h.cell, Nat.zero_add]; simpa using hv
def setL : Array Value → Nat → List Value → Array Value
  | cs, _, [] => cs
  | cs, o, v :: r => setL (cs.setIfInBounds o v) (o + 1) r
theorem Stored.obj {w w2 : World} {b o : Nat} {vs : List Value} {cs : Array Value} {T : TypeId} (hst : Stored w b o vs w2) (h : Obj1 w b cs T) : Obj1 w2 b (setL cs o vs) T := by
  rw [show w2 = _ from hst]; clear hst
  induction vs generalizing w o cs with
  | nil => exact h
  | cons v r ih => rw [World.setCells, setL]; exact ih (h.set o v)
theorem Stored.oth {w w2 : World} {b o b' : Nat} {vs : List Value} {cs : Array Value} {T : TypeId} (hst : Stored w b o vs w2) (h : Obj1 w b' cs T) (hn : b' ≠ b) : Obj1 w2 b' cs T := by
  rw [show w2 = _ from hst]; clear hst
  induction vs generalizing w o with
  | nil => exact h
  | cons v r ih => rw [World.setCells]; exact ih (h.set_other _ _ hn)
theorem setL_get' (vs : List Value) : ∀ (cs : Array Value) (o i : Nat), o + vs.length ≤ cs.size → (setL cs o vs)[i]? = if o ≤ i ∧ i < o + vs.length then vs[i - o]? else cs[i]? := by
  induction vs with
  | nil => intro cs o i h; rw [setL, if_neg (by simp)]
  | cons v r ih =>
    intro cs o i h
    rw [setL, ih _ _ _ (by simp at h ⊢; omega)]
    simp only [List.length_cons] at h ⊢
    by_cases h1 : o + 1 ≤ i ∧ i < o + 1 + r.length
    · rw [if_pos h1, if_pos (by omega), show i - o = (i - (o + 1)) + 1 by omega, List.getElem?_cons_succ]
    · rw [if_neg h1]
      by_cases h2 : i = o
      · subst h2; rw [if_pos (by omega), Nat.sub_self]; simp [Array.getElem?_setIfInBounds]; omega
      · rw [if_neg (by omega), Array.getElem?_setIfInBounds, if_neg (by omega)]
theorem setL_full' (cs : Array Value) (vs : List Value) (h : vs.length = cs.size) : setL cs 0 vs = vs.toArray := by
  apply Array.ext_getElem?
  intro i
  rw [setL_get' vs cs 0 i (by omega)]
  by_cases hi : i < vs.length
  · rw [if_pos (by omega)]; simp
  · rw [if_neg (by omega), Array.getElem?_eq_none (by omega)]; simp; omega
theorem Stored.whole {w w2 : World} {b : Nat} {vs : List Value} {cs : Array Value} {T : TypeId} (hst : Stored w b 0 vs w2) (h : Obj1 w b cs T) (hl : vs.length = cs.size) : Obj1 w2 b vs.toArray T := by
  have := hst.obj h; rwa [setL_full' _ _ hl] at this
theorem store_o {P : Program} {ops : Array Oper} {rest : List Oper} {op : Oper} {a : Act} {w : World} {Q : Exit → Act → World → Prop} (hgd : op.guard = none) (ty : TypeId) (n : Nat) (x y : Operand) (ho : op.op = .store ty x y)
    (b : Nat) (YS : List Value) (hl : YS.length = n) (h1 : YS.all (·.oneCell') = true) (hx : a.eval x = .pointer (some ⟨b, 0, none⟩)) (hy : a.eval y = .agg YS.toArray) (hi : (P.info? ty).map (·.size) = some n) {cs : Array Value} {T : TypeId} (hO : Obj1 w b cs T) (hs : cs.size = n)
    (h : ∀ w2, Stored w b 0 YS w2 → Obj1 w2 b YS.toArray T → wpList P ops Q rest (a.put op.dst undef) w2) : wpList P ops Q (op :: rest) a w :=
  store_gen hgd ty x y ho b 0 YS.toArray hx hy (by have := hO.there 0 n (by omega); simpa [hl] using this) (by rw [List.size_toArray, hl]; exact hi) (by simpa using h1)
    fun w2 hst => h w2 (by simpa using hst) ((show Stored w b 0 YS w2 by simpa using hst).whole hO (by omega))
end Go.Proofs.YtlfbaggcfaenlaaGreat
namespace Go.Proofs.YtlfbaggcfaenlaaGreat
open Go.RowKit
theorem results_cc {P : Program} {fn : Func} {p q : Tmp} {ty ty2 : TypeId} (h : fn.results = #[.cell p ty, .cell q ty2]) (tmps : Array Value) (w : World) (b b2 : Nat) (cs cs2 : List Value) (d d2 : TypeDesc)
    (hp : tmps.getD p undef = .pointer (some ⟨b, 0, none⟩)) (R : w.rangeAt b 0 cs) (hu : P.underlying ty = some d) (hd : d.isRow = true) (hi : (P.info? ty).map (·.size) = some cs.length)
    (hq : tmps.getD q undef = .pointer (some ⟨b2, 0, none⟩)) (R2 : w.rangeAt b2 0 cs2) (hu2 : P.underlying ty2 = some d2) (hd2 : d2.isRow = true) (hi2 : (P.info? ty2).map (·.size) = some cs2.length) :
    (results fn tmps).run P w = .ok (.tuple #[.agg cs.toArray, .agg cs2.toArray]) w := by
  have hp' : tmps[p]?.getD undef = .pointer (some ⟨b, 0, none⟩) := by simpa using hp
  have hq' : tmps[q]?.getD undef = .pointer (some ⟨b2, 0, none⟩) := by simpa using hq
  simp [results, h, hp', hq', asAddr, run_loadVar_mid w b 0 ty cs d R hu hd hi, run_loadVar_mid w b2 0 ty2 cs2 d2 R2 hu2 hd2 hi2]
end Go.Proofs.YtlfbaggcfaenlaaGreat
namespace Go.Proofs.YtlfbaggcfaenlaaGreat
open Go.RowKit
set_option linter.unusedVariables false
def byN (s : ByteArray) (i : Nat) : Int := (s.data.toList.getD i 0).toNat
theorem byN_bd (s : ByteArray) (i : Nat) : 0 ≤ byN s i ∧ byN s i < 256 := by
  unfold byN; have := (s.data.toList.getD i 0).toNat_lt; omega
theorem byN_get (s : ByteArray) (i : Nat) (h : i < s.size) : ((s[i]).toNat : Int) = byN s i := by
  unfold byN
  rw [List.getD_eq_getElem?_getD, List.getElem?_eq_getElem (by simpa using h)]
  rfl
def loK (s : ByteArray) : Nat → Int
  | 0 => 0
  | k + 1 => loK s k + byN s k * 2 ^ (8 * k)
def hiK (s : ByteArray) : Nat → Int
  | 0 => 0
  | k + 1 => hiK s k * 256 + byN s k
theorem pow8 (k : Nat) : (2 : Int) ^ (8 * (k + 1)) = 256 * 2 ^ (8 * k) := by
  rw [show 8 * (k + 1) = 8 * k + 8 by omega, Int.pow_add]; have : (2 : Int) ^ 8 = 256 := by decide
  rw [this, Int.mul_comm]
theorem loK_bd (s : ByteArray) (k : Nat) : 0 ≤ loK s k ∧ loK s k < 2 ^ (8 * k) := by
  induction k with
  | zero => simp [loK]
  | succ k ih =>
    have hb := byN_bd s k
    have hp := pow_pos' (8 * k)
    have h0 : 0 ≤ byN s k * 2 ^ (8 * k) := Int.mul_nonneg hb.1 (by omega)
    have h1 : byN s k * 2 ^ (8 * k) ≤ 255 * 2 ^ (8 * k) := Int.mul_le_mul_of_nonneg_right (by omega) (by omega)
    rw [pow8, loK]; omega
theorem hiK_bd (s : ByteArray) (k : Nat) : 0 ≤ hiK s k ∧ hiK s k < 2 ^ (8 * k) := by
  induction k with
  | zero => simp [hiK]
  | succ k ih =>
    have hb := byN_bd s k
    rw [pow8, hiK]; omega
theorem i64_wraps (n : Int) (h₀ : 0 ≤ n) (h₁ : n < 2 ^ 63) : IntKind.i64.wrap n = n := i64_wrap_id n h₀ h₁
theorem or_low (i : Nat) (v y : Int) (h0 : 0 ≤ v) (h1 : v < 2 ^ i) (hy : 0 ≤ y) (h2 : v + y * 2 ^ i < 2 ^ 62) : bits .or .i64 v (y * 2 ^ i) = v + y * 2 ^ i := by
  have hp := pow_pos' i
  have hm := Int.mul_nonneg hy (Int.le_of_lt hp)
  have h63 : (2 : Int) ^ 63 = 9223372036854775808 := by decide
  have h62 : (2 : Int) ^ 62 = 4611686018427387904 := by decide
  exact bits_join_low .i64 63 (by decide) i64_wraps i v _ h0 h1 (by omega) hm (Int.mul_emod_left _ _) (by omega)
theorem or_high (i : Nat) (v y : Int) (h0 : 0 ≤ v) (h1 : v < 2 ^ i) (hy : 0 ≤ y) (h2 : v + y * 2 ^ i < 2 ^ 62) : bits .or .i64 (y * 2 ^ i) v = y * 2 ^ i + v := by
  have hp := pow_pos' i
  have hm := Int.mul_nonneg hy (Int.le_of_lt hp)
  have h63 : (2 : Int) ^ 63 = 9223372036854775808 := by decide
  have h62 : (2 : Int) ^ 62 = 4611686018427387904 := by decide
  exact bits_join .i64 63 (by decide) i64_wraps i _ v hm (Int.mul_emod_left _ _) (by omega) h0 h1 (by omega)
theorem pow32 (k : Nat) (h : k ≤ 3) : (1 : Int) ≤ 2 ^ (8 * k) ∧ (2 : Int) ^ (8 * k) ≤ 16777216 := by
  have h1 := pow_pos' (8 * k)
  have h2 := pow_le' (show 8 * k ≤ 24 by omega)
  have h3 : (2 : Int) ^ 24 = 16777216 := by decide
  omega
theorem lo_round (s : ByteArray) (k : Nat) (h : k ≤ 3) : bits .or .i64 (loK s k) (wrap64 (wrap64 (byN s k) * 2 ^ (8 * k))) = loK s (k + 1) := by
  have hb := byN_bd s k
  have hl := loK_bd s k
  have hp := pow32 k h
  have h0 : 0 ≤ byN s k * 2 ^ (8 * k) := Int.mul_nonneg hb.1 (by omega)
  have h1 : byN s k * 2 ^ (8 * k) ≤ 255 * 2 ^ (8 * k) := Int.mul_le_mul_of_nonneg_right (by omega) (by omega)
  have h62 : (2 : Int) ^ 62 = 4611686018427387904 := by decide
  rw [IntWalk.wrap64_in (byN s k) (by omega), IntWalk.wrap64_in _ (by omega), or_low (8 * k) _ _ hl.1 hl.2 hb.1 (by omega)]
  rfl
theorem number_lo' (s : ByteArray) (w : World) (hs : s.size ≤ 4) : Calls Tryz.prog 253 #[.string s, .bool true] w fun e w' => e = .returned (.int .i64 (loK s s.size)) ∧ w = w' := by
  go_enter Tryz.func253, Tryz.ntmps253
  go_wp2
  go_loop [5, 6, 9] (fun v j i => ∃ k : Nat, k ≤ s.size ∧ i = .int .i64 k ∧ v = .int .i64 (loK s k)) (fun _ _ i => s.size - (intOf i).toNat)
  case atStart => exact ⟨0, by omega, rfl, rfl⟩
  case round =>
    obtain ⟨k, hk, rfl, rfl⟩ := hrel
    by_cases hlt : k < s.size
    · go_wp2
      go_round
      case rel => exact ⟨k + 1, by omega, by go_num, by rw [byN_get s k hlt, lo_round s k (by omega)]⟩
      case measure => simp [intOf]; omega
    · have E := Hi (show loK s k = loK s s.size by rw [show k = s.size by omega])
      have hge : s.size ≤ k := by omega
      go_wp2
      go_ret
      exact ⟨ret_int E.out, rfl⟩
theorem hi_round (s : ByteArray) (k : Nat) (h : k ≤ 3) : bits .or .i64 (hiK s k * 256) (wrap64 (byN s k)) = hiK s (k + 1) := by
  have hb := byN_bd s k
  have hl := hiK_bd s k
  have hp := pow32 k h
  have h62 : (2 : Int) ^ 62 = 4611686018427387904 := by decide
  have h8 : (2 : Int) ^ 8 = 256 := by decide
  have := or_high 8 (byN s k) (hiK s k) hb.1 (by omega) hl.1 (by omega)
  rw [h8] at this
  rw [IntWalk.wrap64_in (byN s k) (by omega), this]; rfl
theorem number_hi' (s : ByteArray) (w : World) (hs : s.size ≤ 4) : Calls Tryz.prog 253 #[.string s, .bool false] w fun e w' => e = .returned (.int .i64 (hiK s s.size)) ∧ w = w' := by
  go_enter Tryz.func253, Tryz.ntmps253
  go_wp2
  go_loop [5, 6, 9] (fun v j i => ∃ k : Nat, k ≤ s.size ∧ i = .int .i64 k ∧ v = .int .i64 (hiK s k)) (fun _ _ i => s.size - (intOf i).toNat)
  case atStart => exact ⟨0, by omega, rfl, rfl⟩
  case round =>
    obtain ⟨k, hk, rfl, rfl⟩ := hrel
    have hl := hiK_bd s k
    by_cases hlt : k < s.size
    · have hp := pow32 k (by omega)
      obtain ⟨l0, l1⟩ := hl
      have l2 : hiK s k ≤ 16777216 := by omega
      clear l1 hp
      go_wp2
      go_round
      case rel => exact ⟨k + 1, by omega, by go_num, by rw [byN_get s k hlt, hi_round s k (by omega)]⟩
      case measure => simp [intOf]; omega
    · have E := Hi (show hiK s k = hiK s s.size by rw [show k = s.size by omega])
      have hge : s.size ≤ k := by omega
      clear hl
      go_wp2
      go_ret
      exact ⟨ret_int E.out, rfl⟩
/-! ### the document's numbers -/
theorem rle_any (s : ByteArray) (w : World) (hs : s.size ≤ 4) : Calls Tryz.prog 86 #[.string s] w fun e w' => e = .returned (.int .i64 (loK s s.size)) ∧ w = w' := by
  go_enter Tryz.func86, Tryz.ntmps86
  go_wp2
  go_loop [3, 4] (fun v i => ∃ k : Nat, ∃ V : Int, k ≤ s.size ∧ i = .int .i64 ((k : Int) - 1) ∧ v = .int .i64 V ∧ 0 ≤ V ∧ V < 2 ^ (8 * (s.size - k)) ∧ loK s s.size = loK s k + V * 2 ^ (8 * k)) (fun _ i => (intOf i + 1).toNat)
  case atStart => exact ⟨s.size, 0, by omega, rfl, rfl, by omega, by rw [Nat.sub_self]; decide, by omega⟩
  case round =>
    obtain ⟨k, V, hk, rfl, rfl, h0, h1, h2⟩ := hrel
    have H2 := Hi h2
    have H1 := Hi h1
    clear h2
    by_cases hlt : 1 ≤ k
    · obtain ⟨k, rfl⟩ : ∃ m, k = m + 1 := ⟨k - 1, by omega⟩
      have hb := byN_bd s k
      have hkl : k < s.size := by omega
      have hV : V ≤ 16777216 := by have := pow32 (s.size - (k + 1)) (by omega); omega
      have e1 : (((k + 1 : Nat) : Int) - 1) = (k : Int) := by omega
      rw [e1]
      clear h1 e1
      go_wp2
      go_round
      case rel =>
        refine ⟨k, V * 256 + byN s k, by omega, by go_num, ?_, by omega, ?_, ?_⟩
        · rw [byN_get s k hkl, IntWalk.wrap64_in (byN s k) (by omega), IntWalk.wrap64_in _ (by omega), Int.mul_comm]
        · rw [show s.size - k = (s.size - (k + 1)) + 1 by omega, pow8]; have := H1.out; omega
        · rw [H2.out, pow8, loK, Int.add_mul, Int.mul_assoc, Int.add_assoc, Int.add_comm (V * _)]
      case measure => simp [intOf]
    · obtain rfl : k = 0 := by omega
      have E := Hi (show V = loK s s.size by rw [H2.out, loK]; simp)
      clear h1
      go_wp2
      go_ret
      exact ⟨ret_int E.out, rfl⟩
def numB (s : ByteArray) (low : Bool) : Int := if low = true then loK s s.size else hiK s s.size
theorem number_any' (s : ByteArray) (low : Bool) (w : World) (hs : s.size ≤ 4) : Calls Tryz.prog 253 #[.string s, .bool low] w fun e w' => e = .returned (.int .i64 (numB s low)) ∧ w = w' := by
  cases low
  · exact number_hi' s w hs
  · exact number_lo' s w hs
theorem next_size (x : Sr) (l : Led) (n : Int) (h : 0 ≤ n) : ((x.next l n).2.1.size : Int) ≤ n := by
  unfold Sr.next
  split
  · simp only [ByteArray.size_extract]; omega
  · simpa using h
def NumPost (w : World) (X : Nat) (x y : Sr) (m : Led) (v : Int) (ok : Bool) (e : Ending) (w' : World) : Prop := e = .returned (.tuple #[.int .i64 v, .bool ok]) ∧ Pair w' X y m ∧ Chg (two X x) w w'
abbrev NumOf (w : World) (X : Nat) (x : Sr) (l : Led) (n : Int) (low : Bool) : Ending → World → Prop := NumPost w X x (x.next l n).1.1 (x.next l n).1.2 (numB (x.next l n).2.1 low) (x.next l n).2.2
theorem read_any (X : Nat) (x : Sr) (l : Led) (n : Int) (low : Bool) (w : World) (h : Pair w X x l) (h0 : 0 ≤ n) (h1 : n ≤ 4) : Calls Tryz.prog 219 #[.pointer (some ⟨X, 0, none⟩), .int .i64 n, .bool low] w (NumOf w X x l n low) := by
  have HN := Hi (next_any X x l n w h)
  have hs := next_size x l n h0
  unfold NumOf
  obtain ⟨⟨⟨y, m⟩, s, ok⟩, hr⟩ : ∃ r, x.next l n = r := ⟨_, rfl⟩
  rw [hr] at HN hs ⊢
  have hs' : s.size ≤ 4 := by simp only at hs; omega
  have HB := Hi (fun w0 => number_any' s low w0 hs')
  clear h hr hs hs' h0 h1
  go_enter Tryz.func219, Tryz.ntmps219
  go_wp2_with (first
    | (go_at_call 142; (with_reducible refine (HN.out).mono ?_); rintro e w1 ⟨rfl, hP, hC⟩)
    | (go_at_call 253; (with_reducible refine (HB.out _).mono ?_); rintro e w2 ⟨rfl, rfl⟩))
  go_ret2
  exact ⟨rfl, hP, hC⟩
theorem u8_any (X : Nat) (x : Sr) (l : Led) (w : World) (h : Pair w X x l) : Calls Tryz.prog 157 #[.pointer (some ⟨X, 0, none⟩)] w (NumOf w X x l 1 true) := by
  have HN := Hi (read_any X x l 1 true w h (by decide) (by decide))
  unfold NumOf at HN ⊢
  obtain ⟨⟨⟨y, m⟩, s, ok⟩, hr⟩ : ∃ r, x.next l 1 = r := ⟨_, rfl⟩
  rw [hr] at HN ⊢
  clear h hr
  go_enter Tryz.func157, Tryz.ntmps157
  go_wp2_with (go_at_call 219; (with_reducible refine (HN.out).mono ?_); rintro e w1 ⟨rfl, hP, hC⟩)
  go_ret2
  exact ⟨rfl, hP, hC⟩
def signed (v : Int) : Int := if 2147483648 ≤ v then v - 4294967296 else v
theorem next_ok {x : Sr} {l : Led} {n : Int} (h : (x.next l n).2.2 = true) : (l.work 1).2 = true ∧ 0 ≤ n ∧ n ≤ (x.e : Int) - x.p ∧ (x.next l n).1.1 = { x with p := x.p + n.toNat } ∧ (x.next l n).1.2 = (l.work 1).1 ∧ (x.next l n).2.1 = x.s.extract x.p (x.p + n.toNat) := by
  unfold Sr.next at h ⊢
  by_cases hc : (l.work 1).2 = true ∧ 0 ≤ n ∧ n ≤ (x.e : Int) - x.p
  · rw [if_pos hc]; exact ⟨hc.1, hc.2.1, hc.2.2, rfl, rfl, rfl⟩
  · rw [if_neg hc] at h; simp at h
/-! ### windows -/
end Go.Proofs.YtlfbaggcfaenlaaGreat
namespace Go.Proofs.YtlfbaggcfaenlaaGreat
open Go.RowKit
set_option linter.unusedVariables false
set_option linter.unusedSimpArgs false
theorem ret_b {a b : Bool} (h : a = b) : Ending.returned (.bool a) = Ending.returned (.bool b) := by rw [h]
theorem ret_i {a b : Int} (h : a = b) : Ending.returned (.int .i64 a) = Ending.returned (.int .i64 b) := by rw [h]
structure Chk where
  x1 : Int
  kn : Bool
  pb : Bool
  th : Bool
  c7 : Bool
  C : Int
  W : Int
  H : Int
  dp : Bool
  f : Int
  al : Bool
def Chk.row (c : Chk) : Nat → Bool × Int × Int × Bool
  | 0 => (decide (1 < c.x1), 2, 1, false)
  | 1 => (!c.kn, 3, 2, false)
  | 2 => (c.pb && !c.th, 2, 1, false)
  | 3 => (c.th && !c.c7, 3, 7, false)
  | 4 => (c.th && c.C == 0, 2, 5, true)
  | 5 => (c.W == 0, 2, 12, false)
  | 6 => (decide (16384 < c.W), 3, 12, true)
  | 7 => (c.H == 0, 2, 14, false)
  | 8 => (decide (16384 < c.H), 3, 14, true)
  | 9 => (!c.dp, 3, 16, false)
  | 10 => (c.f / 64 != 0, 3, 17, true)
  | 11 => (!c.al, 2, 17, true)
  | _ => (false, 0, 0, false)
def Chk.from (c : Chk) : Nat → Nat → Option (Int × Int)
  | 0, _ => none
  | n + 1, i => if (c.row i).1 = true then some ((c.row i).2.1, (c.row i).2.2.1) else c.from n (i + 1)
def Chk.first (c : Chk) : Option (Int × Int) := c.from 12 0
def Chk.isFrom (c : Chk) : Nat → Nat → Bool
  | 0, _ => true
  | n + 1, i => if ((c.row i).1 && !(c.row i).2.2.2) = true then false else c.isFrom n (i + 1)
def Chk.is (c : Chk) : Bool := c.isFrom 12 0
theorem byN_ext (s : ByteArray) (a b i : Nat) (h : a + i < b) (hb : b ≤ s.size) : byN (s.extract a b) i = byN s (a + i) := by
  have h1 : i < (s.extract a b).size := by rw [ByteArray.size_extract]; omega
  rw [← byN_get (s.extract a b) i h1, ← byN_get s (a + i) (by omega), ByteArray.getElem_extract]
end Go.Proofs.YtlfbaggcfaenlaaGreat
namespace Go
theorem gen_frame {P : Program} {ops : Array Oper} {Q : Exit → Act → World → Prop} {a : Act} {w : World} (p : Nat) (v : Value) (hv : a.tmps.getD p undef = v) (hd : a.defers = [])
    (h : ∀ A : Act, A.tmps.getD p undef = v → A.defers = [] → wpList P ops Q [] A w) : wpList P ops Q [] a w := h a hv hd
end Go
namespace Go.Proofs.YtlfbaggcfaenlaaGreat
open Go.RowKit
set_option linter.unusedVariables false
set_option linter.unusedSimpArgs false
def RA (w : World) (L : List Value) (e : Ending) (w' : World) : Prop := e = .returned (.agg L.toArray) ∧ Below w.heap.size w w'
theorem Stored.chg {S : Nat → Prop} {a w w2 : World} {b o : Nat} {vs : List Value} (hst : Stored w b o vs w2) (h : Chg S a w) (hb : a.heap.size ≤ b) : Chg S a w2 := by
  rw [show w2 = _ from hst]; clear hst
  induction vs generalizing w o with
  | nil => exact h
  | cons v r ih => rw [World.setCells]; exact ih (h.set _ _ (Or.inr hb))
theorem Pair.into {w w2 : World} {X b o : Nat} {vs : List Value} {x : Sr} {l : Led} (h : Pair w X x l) (hst : Stored w b o vs w2) (h1 : X ≠ b) (h2 : x.L ≠ b) : Pair w2 X x l :=
  ⟨⟨hst.oth h.src.obj h1, h.src.ok, h.src.ne⟩, ⟨hst.oth h.led.obj h2, h.led.ok⟩⟩
theorem Pair.upon {B : Nat} {w w' : World} {X : Nat} {x : Sr} {l : Led} (h : Pair w X x l) (hb : Below B w w') (h1 : X < B) (h2 : x.L < B) : Pair w' X x l := ⟨⟨h.src.obj.below hb h1, h.src.ok, h.src.ne⟩, ⟨h.led.obj.below hb h2, h.led.ok⟩⟩
def faultL (x : Sr) (l : Led) (f : Int) : List Value := if l.br = true then [.int .i64 4, .int .i64 f, .int .i64 x.p] else [.int .i64 1, .int .i64 f, .int .i64 x.e]
theorem faultL_eq (x : Sr) (l : Led) (f : Int) : x.fault l f = .agg (faultL x l f).toArray := by unfold Sr.fault faultL; split <;> rfl
theorem faultL_len (x : Sr) (l : Led) (f : Int) : (faultL x l f).length = 3 := by unfold faultL; split <;> rfl
theorem faultL_one (x : Sr) (l : Led) (f : Int) : (faultL x l f).all (·.oneCell') = true := by unfold faultL; split <;> rfl
theorem next_L (x : Sr) (l : Led) (n : Int) : (x.next l n).1.1.L = x.L := by unfold Sr.next; split <;> rfl
theorem fault_c (X : Nat) (x : Sr) (l : Led) (f : Int) (w : World) (F : List Value) (hF : faultL x l f = F) (h : Pair w X x l) : Calls Tryz.prog 67 #[.pointer (some ⟨X, 0, none⟩), .int .i64 f] w (RA w F) := by
  subst hF
  exact (fault_any X x l f w h).mono fun e w' hh => ⟨hh.1.trans (by rw [faultL_eq]), hh.2⟩
end Go.Proofs.YtlfbaggcfaenlaaGreat
namespace Go.Proofs.YtlfbaggcfaenlaaGreat
open Go.RowKit
set_option linter.unusedVariables false
def strOf (ns : List Int) : ByteArray := ns.foldl (fun r n => r.push (UInt8.ofNat n.toNat)) ByteArray.empty
theorem owns_cell {w : World} {base e g n cap : Nat} {xs : List Value} (h : w.ownsRow base e 1 (.slice (some ⟨g, 0, none⟩) n cap) n xs) (j : Nat) (v : Value) (hv : xs[j]? = some v) : w.cell? ⟨g, j, none⟩ = some v := by
  obtain ⟨hl, h2⟩ := h
  rcases h2 with ⟨h2, _⟩ | ⟨g', cap', cur, hv', hg, hh, hn, hc, hs, ht⟩
  · simp at h2
  · injection hv' with hv'; injection hv' with hv'; injection hv' with hv'; subst hv'
    have hj : j < n := by rw [← Nat.mul_one n, ← hl]; exact (List.getElem?_eq_some_iff.1 hv).1
    rw [← ht, List.getElem?_take, if_pos (by omega)] at hv
    simp [World.cell?, hh]; simpa using hv
theorem owns_form {w : World} {base e n : Nat} {v : Value} {xs : List Value} (h : w.ownsRow base e 1 v n xs) (hn : 0 < n) : ∃ g cap, v = .slice (some ⟨g, 0, none⟩) n cap ∧ base ≤ g ∧ g < w.heap.size ∧ n ≤ cap ∧ cap ≤ maxLen := by
  obtain ⟨hl, h2⟩ := h
  rcases h2 with ⟨_, h2⟩ | ⟨g', cap', cur, hv', hg, hh, hn, hc, hs, ht⟩
  · omega
  · exact ⟨g', cap', hv', hg, (Array.getElem?_eq_some_iff.1 hh).1, hn, hc⟩
theorem owns_len {w : World} {base e n : Nat} {v : Value} {xs : List Value} (h : w.ownsRow base e 1 v n xs) : xs.length = n := by have := h.1; omega
theorem owns_string {P : Program} {w : World} {base e n : Nat} {v : Value} {ns : List Int} (h : w.ownsRow base e 1 v n (ns.map (Value.int .u8))) (src dst e' : TypeId)
    (hs : P.underlying src = some (.slice e')) (he : P.underlying e' = some (.int .u8)) (hd : P.underlying dst = some .string) : (convert src dst v).run P w = .ok (.string (strOf ns)) w := by
  have hl := owns_len h
  simp at hl
  by_cases h0 : n = 0
  · subst h0
    obtain rfl : ns = [] := List.length_eq_zero_iff.1 hl
    obtain ⟨_, h2⟩ := h
    rcases h2 with ⟨rfl, _⟩ | ⟨g, cap, cur, rfl, hg, hh, _⟩
    · rw [run_convert_bytes_string w src dst e' none 0 0 hs he hd]; rfl
    · rw [run_convert_bytes_string w src dst e' _ 0 cap hs he hd]
      exact run_bytesToString w _ 0 cap [] (by rfl)
  · obtain ⟨g, cap, rfl, _⟩ := owns_form h (by omega)
    rw [run_convert_bytes_string w src dst e' _ n cap hs he hd]
    refine run_bytesToString w _ n cap ns ?_
    have := run_loadCells_list (P := P) w ⟨g, 0, none⟩ (ns.map (Value.int .u8)) (fun j v hv => by rw [Addr.add_mid, Nat.zero_add]; exact owns_cell h j v hv)
    rw [List.length_map, hl] at this; exact this
theorem rsigned_any (s : ByteArray) (w : World) (hs : s.size ≤ 4) : Calls Tryz.prog 88 #[.string s] w fun e w' => e = .returned (.int .i64 (signed (loK s s.size))) ∧ w = w' := by
  have hb := loK_bd s s.size
  have hp := pow_le' (show 8 * s.size ≤ 32 by omega)
  have h32 : (2 : Int) ^ 32 = 4294967296 := by decide
  have HL := Hi (fun w0 => rle_any s w0 hs)
  unfold signed
  obtain ⟨v, hv⟩ : ∃ v, loK s s.size = v := ⟨_, rfl⟩
  rw [hv] at HL hb ⊢
  have v0 : 0 ≤ v := hb.1
  have v1 : v < 4294967296 := by omega
  clear hb hp h32 hv hs
  by_cases h : 2147483648 ≤ v
  · rw [if_pos h]
    go_enter Tryz.func88, Tryz.ntmps88
    go_wp2_with (go_at_call 86; (with_reducible refine (HL.out _).mono ?_); rintro e w1 ⟨rfl, rfl⟩)
    go_ret
    exact ⟨rfl, rfl⟩
  · rw [if_neg h]
    have h' : v < 2147483648 := by omega
    go_enter Tryz.func88, Tryz.ntmps88
    go_wp2_with (go_at_call 86; (with_reducible refine (HL.out _).mono ?_); rintro e w1 ⟨rfl, rfl⟩)
    go_ret
    exact ⟨rfl, rfl⟩
end Go.Proofs.YtlfbaggcfaenlaaGreat
namespace Go.Proofs.YtlfbaggcfaenlaaGreat
open Go.RowKit
set_option linter.unusedVariables false
set_option linter.unusedSimpArgs false
theorem load_og {P : Program} {ops : Array Oper} {rest : List Oper} {op : Oper} {a : Act} {w : World} {Q : Exit → Act → World → Prop} (hw : Region.wanted op (yielded ops a.tmps) = true) (ty : TypeId) (n : Nat) (x : Operand) (ho : op.op = .load ty x)
    (b : Nat) (YS : List Value) (hl : YS.length = n) (hx : a.eval x = .pointer (some ⟨b, 0, none⟩)) {T : TypeId} (hO : Obj1 w b YS.toArray T) {d : TypeDesc} (hu : P.underlying ty = some d) (hd : d.isRow = true) (hi : (P.info? ty).map (·.size) = some n)
    (h : wpList P ops Q rest (a.put op.dst (.agg YS.toArray)) w) : wpList P ops Q (op :: rest) a w := by
  rw [wpList, if_pos hw]
  exact Or.inl (wp_load_mid ty x ho b 0 hx YS d hO.range0 hu hd (by rw [hl]; exact hi) h)
end Go.Proofs.YtlfbaggcfaenlaaGreat
namespace Go.Proofs.YtlfbaggcfaenlaaGreat
open Go.RowKit
set_option linter.unusedVariables false
theorem Obj1.range {w : World} {b : Nat} {cs : Array Value} {T : TypeId} (h : Obj1 w b cs T) (o : Nat) (L : List Value) (hL : (cs.toList.drop o).take L.length = L) : w.rangeAt b o L := fun j v hv => by
  rw [h.cell]
  rw [← hL, List.getElem?_take] at hv
  split at hv
  · rw [List.getElem?_drop] at hv; simpa using hv
  · cases hv
theorem load_ag {P : Program} {ops : Array Oper} {rest : List Oper} {op : Oper} {a : Act} {w : World} {Q : Exit → Act → World → Prop} (hw : Region.wanted op (yielded ops a.tmps) = true) (ty : TypeId) (x : Operand) (ho : op.op = .load ty x)
    (b o : Nat) (YS : List Value) (hx : a.eval x = .pointer (some ⟨b, o, none⟩)) {cs : Array Value} {T : TypeId} (hO : Obj1 w b cs T) (hL : (cs.toList.drop o).take YS.length = YS) {d : TypeDesc} (hu : P.underlying ty = some d) (hd : d.isRow = true) (hi : (P.info? ty).map (·.size) = some YS.length)
    (h : Unit → wpList P ops Q rest (a.put op.dst (.agg YS.toArray)) w) : wpList P ops Q (op :: rest) a w := by
  rw [wpList, if_pos hw]
  exact Or.inl (wp_load_mid ty x ho b o hx YS d (hO.range o YS hL) hu hd hi (h ()))
theorem skip_g {P : Program} {ops : Array Oper} {rest : List Oper} {op : Oper} {a : Act} {w : World} {Q : Exit → Act → World → Prop} {g : Nat × Bool} (hg : op.guard = some g) (hw : Region.wanted op (yielded ops a.tmps) = false) (h : Unit → wpList P ops Q rest (a.put op.dst undef) w) : wpList P ops Q (op :: rest) a w := by
  rw [wpList, if_neg (by simp [hw])]; exact h ()
theorem store_a {P : Program} {ops : Array Oper} {rest : List Oper} {op : Oper} {a : Act} {w : World} {Q : Exit → Act → World → Prop} (hgd : op.guard = none) (ty : TypeId) (x y : Operand) (ho : op.op = .store ty x y)
    (b o : Nat) (YS : List Value) (h1 : YS.all (·.oneCell') = true) (hx : a.eval x = .pointer (some ⟨b, o, none⟩)) (hy : a.eval y = .agg YS.toArray) (hi : (P.info? ty).map (·.size) = some YS.length) {cs : Array Value} {T : TypeId} (hO : Obj1 w b cs T) (hs : o + YS.length ≤ cs.size)
    (h : ∀ w2, Stored w b o YS w2 → Obj1 w2 b (setL cs o YS) T → wpList P ops Q rest (a.put op.dst undef) w2) : wpList P ops Q (op :: rest) a w :=
  store_gen hgd ty x y ho b o YS.toArray hx hy (by have := hO.there o YS.length hs; simpa using this) (by rw [List.size_toArray]; exact hi) (by simpa using h1)
    fun w2 hst => h w2 (by simpa using hst) ((show Stored w b o YS w2 by simpa using hst).obj hO)
theorem load_u {P : Program} {ops : Array Oper} {rest : List Oper} {op : Oper} {a : Act} {w : World} {Q : Exit → Act → World → Prop} (hw : Region.wanted op (yielded ops a.tmps) = true) (ty : TypeId) (n : Nat) (x : Operand) (ho : op.op = .load ty x)
    (b : Nat) (YS : List Value) (hl : YS.length = n) (hx : a.eval x = .pointer (some ⟨b, 0, none⟩)) {T : TypeId} (hO : Obj1 w b YS.toArray T) {d : TypeDesc} (hu : P.underlying ty = some d) (hd : d.isRow = true) (hi : (P.info? ty).map (·.size) = some n)
    (h : Unit → wpList P ops Q rest (a.put op.dst (.agg YS.toArray)) w) : wpList P ops Q (op :: rest) a w := load_og hw ty n x ho b YS hl hx hO hu hd hi (h ())
theorem Obj1.cells {w : World} {b : Nat} {cs cs' : Array Value} {T : TypeId} (h : Obj1 w b cs T) (e : cs = cs') : Obj1 w b cs' T := e ▸ h
theorem Pair.alloc {w : World} {X : Nat} {x : Sr} {l : Led} (h : Pair w X x l) (o : Obj) : Pair (w.alloc o) X x l :=
  h.upon ((Below.refl w.heap.size w).alloc (Nat.le_refl _) o) h.src.lt h.led.lt
theorem Pair.drew1 {w : World} {X : Nat} {x : Sr} {l : Led} (h : Pair w X x l) : Pair w.drew X x l := ⟨⟨h.src.obj.drew, h.src.ok, h.src.ne⟩, ⟨h.led.obj.drew, h.led.ok⟩⟩
theorem Chg.setc {S : Nat → Prop} {a w : World} (h : Chg S a w) (b o : Nat) (v : Value) (hb : a.heap.size ≤ b) : Chg S a (w.setCell ⟨b, o, none⟩ v) := h.set _ v (Or.inr hb)
theorem Pair.setc {w : World} {X b o : Nat} {x : Sr} {l : Led} (h : Pair w X x l) (v : Value) (h1 : X ≠ b) (h2 : x.L ≠ b) : Pair (w.setCell ⟨b, o, none⟩ v) X x l :=
  h.into (b := b) (o := o) (vs := [v]) rfl h1 h2
end Go.Proofs.YtlfbaggcfaenlaaGreat
namespace Go.Proofs.YtlfbaggcfaenlaaGreat
open Go.RowKit
set_option linter.unusedVariables false
set_option linter.unusedSimpArgs false
def Led.take (s : Led) (n : Int) : Led × Bool := if s.br = true then (s, false) else if n < 0 ∨ s.mb - s.bt < n then (s.refuse 2 n, false) else ({ s with bt := s.bt + n, pk := if s.bt + n ≤ s.pk then s.pk else s.bt + n }, true)
theorem Led.take_ok {s : Led} (h : s.ok) (n : Int) : (s.take n).1.ok := by
  obtain ⟨a, b, c, d, e, f⟩ := h
  unfold Led.take
  by_cases h1 : s.br = true
  · rw [if_pos h1]; exact ⟨a, b, c, d, e, f⟩
  · rw [if_neg h1]
    by_cases h2 : n < 0 ∨ s.mb - s.bt < n
    · rw [if_pos h2]; exact ⟨a, b, c, d, e, f⟩
    · rw [if_neg h2]; exact ⟨by show 0 ≤ s.bt + n; omega, by show s.bt + n ≤ s.mb; omega, c, d, e, f⟩
set_option maxRecDepth 100000 in
theorem take_no (L : Nat) (n most : Int) (R : World → Prop) (w : World) (hm : w.cell? ⟨L, 2, none⟩ = some (.int .i64 most))
    (HA : Calls Tryz.prog 216 #[.pointer (some ⟨L, 0, none⟩), .pointer (some ⟨L, 4, none⟩), .int .i64 n, .int .i64 most, .int .i64 2] (w.drewN 1) fun e w' => e = .returned (.bool false) ∧ R w') :
    Calls Tryz.prog 151 #[.pointer (some ⟨L, 0, none⟩), .int .i64 n] w fun e w' => e = .returned (.bool false) ∧ R w' := by
  have HA := Hi HA
  go_enter Tryz.func151, Tryz.ntmps151
  go_wp2
  go_still_tail 10, (by kernel_rfl)
  rw [show (⟨w.heap, w.tape, w.drawn + 1, w.os, w.output⟩ : World) = w.drewN 1 from rfl]
  go_wp2_with (go_at_call 216; (with_reducible refine (HA.out).mono ?_); rintro e w1 ⟨rfl, hR⟩)
  go_ret
  exact ⟨rfl, hR⟩
set_option maxRecDepth 100000 in
theorem take_yes (L : Nat) (n most bt pk : Int) (w : World) (hm : w.cell? ⟨L, 2, none⟩ = some (.int .i64 most)) (w1 : World)
    (HA : Calls Tryz.prog 216 #[.pointer (some ⟨L, 0, none⟩), .pointer (some ⟨L, 4, none⟩), .int .i64 n, .int .i64 most, .int .i64 2] (w.drewN 1) fun e w' => e = .returned (.bool true) ∧ w1 = w')
    (hb : w1.cell? ⟨L, 4, none⟩ = some (.int .i64 bt)) (hp : w1.cell? ⟨L, 5, none⟩ = some (.int .i64 pk)) (hf : w1.frozen? ⟨L, 5, none⟩ = false) :
    Calls Tryz.prog 151 #[.pointer (some ⟨L, 0, none⟩), .int .i64 n] w fun e w' => e = .returned (.bool true) ∧ ∃ k, w' = if bt ≤ pk then w1.drewN k else (w1.drewN k).setCell ⟨L, 5, none⟩ (.int .i64 bt) := by
  have HA := Hi HA
  have HB := Hi (fun w0 (h : w0.cell? ⟨L, 4, none⟩ = some (.int .i64 bt)) => (aload64 L 4 bt w0 h).mono (R' := fun e w' => e = .returned (.int .i64 bt) ∧ w' = w0) fun e w' hh => ⟨hh.1, hh.2.symm⟩)
  have HP := Hi (fun w0 (h : w0.cell? ⟨L, 5, none⟩ = some (.int .i64 pk)) => (aload64 L 5 pk w0 h).mono (R' := fun e w' => e = .returned (.int .i64 pk) ∧ w' = w0) fun e w' hh => ⟨hh.1, hh.2.symm⟩)
  have HC := Hi (fun w0 (h : w0.cell? ⟨L, 5, none⟩ = some (.int .i64 pk)) (hz : w0.frozen? ⟨L, 5, none⟩ = false) => acas64 L 5 pk bt w0 h hz)
  go_enter Tryz.func151, Tryz.ntmps151
  go_wp2
  go_still_tail 10, (by kernel_rfl)
  rw [show (⟨w.heap, w.tape, w.drawn + 1, w.os, w.output⟩ : World) = w.drewN 1 from rfl]
  go_wp2_with (go_at_call 216; (with_reducible refine (HA.out).mono ?_); rintro e w2 ⟨rfl, rfl⟩)
  refine wp_loop_rounds 1 ?_
  rw [rounds_succ]
  go_upto_region 3 with (fail)
  go_quiet ((first
    | (go_at_call 80; exact Calls.quiet_of_same (HB.out _ (by exact hb)))
    | (go_at_call 80; exact Calls.quiet_of_same (HP.out _ (by exact hp)))))
  by_cases hle : bt ≤ pk
  · go_wp2_with ((with_reducible refine skip_g rfl ?_ ?_); rfl; intro _)
    go_ret
    exact ⟨rfl, _, by first | rfl | (rw [if_pos hle])⟩
  · go_wp2_with (first
      | ((with_reducible refine skip_g rfl ?_ ?_); rfl; intro _)
      | (go_at_call 217; (with_reducible refine (HC.out _ (by rw [World.cell?_drewN]; exact hp) (by rw [World.frozen?_drewN]; exact hf)).mono ?_); rintro e w3 ⟨rfl, rfl⟩))
    go_ret
    exact ⟨rfl, _, by first | rfl | (rw [if_neg hle])⟩
theorem ltake_any (L : Nat) (s : Led) (n : Int) (w : World) (h : LedAt w L s) : Calls Tryz.prog 151 #[.pointer (some ⟨L, 0, none⟩), .int .i64 n] w fun e w' =>
      e = .returned (.bool (s.take n).2) ∧ LedAt w' L (s.take n).1 ∧ Chg (· = L) w w' := by
  have hk := Led.take_ok h.ok n
  have h' : LedAt (w.drewN 1) L s := ⟨h.obj.drewN 1, h.ok⟩
  obtain ⟨ho, hok⟩ := h
  have ho1 := ho.drewN 1
  by_cases h1 : s.br = true
  · have e1 : s.take n = (s, false) := by unfold Led.take; rw [if_pos h1]
    rw [e1]
    refine take_no L n s.mb (fun w' => LedAt w' L s ∧ Chg (· = L) w w') w ((ho.cell 2).trans rfl) ((add_broken L 4 n s.mb 2 _ ((ho1.cell 7).trans (by unfold Led.cells; rw [h1]; rfl))).mono ?_)
    rintro e w' ⟨rfl, rfl⟩
    exact ⟨rfl, h', (Chg.refl _ w).drewN 1⟩
  · have hf : s.br = false := by cases hb : s.br <;> simp_all
    by_cases h2 : n < 0 ∨ s.mb - s.bt < n
    · have e1 : s.take n = (s.refuse 2 n, false) := by unfold Led.take; rw [if_neg h1, if_pos h2]
      rw [e1] at hk ⊢
      have ho' : Obj1 (w.drewN 1) L #[.int .i64 s.mw, .int .i64 s.mh, .int .i64 s.mb, .int .i64 s.mx, .int .i64 s.bt, .int .i64 s.pk, .int .i64 s.st, .int .u32 0, .int .u32 0, .int .i32 0, .int .u32 0, .int .i64 s.rs, .int .i64 s.ak] 125 := by
        have := ho1; unfold Led.cells at this; rw [hf] at this; exact this
      refine take_no L n s.mb (fun w' => LedAt w' L (s.refuse 2 n) ∧ Chg (· = L) w w') w ((ho.cell 2).trans rfl) ((add_no L 4 n s.mb 2 s.bt _ _ _ _ _ _ _ _ _ _ _ _ ho' ((ho1.cell 4).trans rfl) h2 hok.b0 hok.b1 hok.b2).mono ?_)
      rintro e w' ⟨rfl, hO, hC⟩
      exact ⟨rfl, ⟨hO, hk⟩, ((Chg.refl _ w).drewN 1).trans hC⟩
    · have e1 : s.take n = ({ s with bt := s.bt + n, pk := if s.bt + n ≤ s.pk then s.pk else s.bt + n }, true) := by unfold Led.take; rw [if_neg h1, if_neg h2]
      rw [e1] at hk ⊢
      have ho2 := ho1.set 4 (.int .i64 (s.bt + n))
      refine (take_yes L n s.mb (s.bt + n) s.pk w ((ho.cell 2).trans rfl) _ (add_ok L 4 n s.mb 2 s.bt _ ((ho1.cell 7).trans (by unfold Led.cells; rw [hf]; rfl)) ((ho1.cell 4).trans rfl) (ho1.frozen 4) (by omega) (by omega) hok.b0 hok.b1 hok.b2) ((ho2.cell 4).trans rfl) ((ho2.cell 5).trans rfl) (ho2.frozen 5)).mono ?_
      rintro e w' ⟨rfl, k, rfl⟩
      refine ⟨rfl, ?_, ?_⟩
      · by_cases hle : s.bt + n ≤ s.pk
        · rw [if_pos hle] at hk ⊢
          rw [if_pos hle]
          exact ⟨ho2.drewN k, hk⟩
        · rw [if_neg hle] at hk ⊢
          rw [if_neg hle]
          exact ⟨(ho2.drewN k).set 5 _, hk⟩
      · have hc : Chg (· = L) w ((w.drewN 1).setCell ⟨L, 4, none⟩ (.int .i64 (s.bt + n))) := ((Chg.refl _ w).drewN 1).set _ _ (Or.inl rfl)
        split
        · exact hc.drewN k
        · exact (hc.drewN k).set _ _ (Or.inl rfl)
def Led.sides (s : Led) (a b : Int) : Led × Bool := if s.br = true then (s, false) else if a < 1 ∨ s.mw < a then (s.refuse 1 a, false) else if b < 1 ∨ s.mh < b then (s.refuse 1 b, false) else (s, true)
set_option maxRecDepth 100000 in
set_option maxHeartbeats 4000000 in
theorem lsides_any (L : Nat) (s : Led) (a b : Int) (w : World) (h : LedAt w L s) : Calls Tryz.prog 77 #[.pointer (some ⟨L, 0, none⟩), .int .i64 a, .int .i64 b] w fun e w' =>
      e = .returned (.bool (s.sides a b).2) ∧ LedAt w' L (s.sides a b).1 ∧ Chg (· = L) w w' := by
  have hok := h.ok
  have c0 : w.cell? ⟨L, 0, none⟩ = some (.int .i64 s.mw) := (h.obj.cell 0).trans rfl
  have c1 : w.cell? ⟨L, 1, none⟩ = some (.int .i64 s.mh) := (h.obj.cell 1).trans rfl
  have H := Hi h
  unfold Led.sides
  cases hb : s.br with
  | true =>
    rw [if_pos rfl]
    have HB := Hi (bload_t L 7 w ((h.obj.cell 7).trans (by unfold Led.cells; rw [hb]; rfl)))
    clear h hb
    go_enter Tryz.func77, Tryz.ntmps77
    go_wp2_with (go_at_call 119; (with_reducible refine (HB.out).mono ?_); rintro e w1 ⟨rfl, rfl⟩)
    go_ret
    exact ⟨rfl, H.out, Chg.refl _ _⟩
  | false =>
    rw [if_neg (by decide)]
    have HB := Hi (bload_f L 7 w ((h.obj.cell 7).trans (by unfold Led.cells; rw [hb]; rfl)))
    have ho' : Obj1 w L #[.int .i64 s.mw, .int .i64 s.mh, .int .i64 s.mb, .int .i64 s.mx, .int .i64 s.bt, .int .i64 s.pk, .int .i64 s.st, .int .u32 0, .int .u32 0, .int .i32 0, .int .u32 0, .int .i64 s.rs, .int .i64 s.ak] 125 := by
      have := h.obj; unfold Led.cells at this; rw [hb] at this; exact this
    have HR := Hi (fun n => (refuse_any L 1 n _ _ _ _ _ _ _ _ _ _ _ w ho').mono (R' := fun e w' => e = .returned (.bool false) ∧ LedAt w' L (s.refuse 1 n) ∧ Chg (· = L) w w') fun e w' hh => ⟨hh.1, ⟨hh.2.1, hok.b0, hok.b1, hok.b2, hok.s0, hok.s1, hok.s2⟩, hh.2.2⟩)
    obtain ⟨mw, hmw⟩ : ∃ m, s.mw = m := ⟨_, rfl⟩
    obtain ⟨mh, hmh⟩ : ∃ m, s.mh = m := ⟨_, rfl⟩
    rw [hmw] at c0
    rw [hmh] at c1
    rw [hmw, hmh]
    clear h hb ho' hok hmw hmh
    have hcase : (a < 1) ∨ (¬ a < 1 ∧ mw < a) ∨ (¬ a < 1 ∧ ¬ mw < a ∧ b < 1) ∨ (¬ a < 1 ∧ ¬ mw < a ∧ ¬ b < 1 ∧ mh < b) ∨ (¬ a < 1 ∧ ¬ mw < a ∧ ¬ b < 1 ∧ ¬ mh < b) := by omega
    rcases hcase with h1 | ⟨h1, h2⟩ | ⟨h1, h2, h3⟩ | ⟨h1, h2, h3, h4⟩ | ⟨h1, h2, h3, h4⟩
    · rw [if_pos (Or.inl h1)]
      go_enter Tryz.func77, Tryz.ntmps77
      go_wp2_with (first
        | ((with_reducible refine skip_g rfl ?_ ?_); rfl; intro _)
        | (go_at_call 119; (with_reducible refine (HB.out).mono ?_); rintro e w1 ⟨rfl, rfl⟩)
        | (go_at_call 148; (with_reducible refine (HR.out _).mono ?_); rintro e w1 ⟨rfl, hO, hC⟩))
      go_ret
      exact ⟨rfl, hO, hC⟩
    · rw [if_pos (Or.inr h2)]
      go_enter Tryz.func77, Tryz.ntmps77
      go_wp2_with (first
        | ((with_reducible refine skip_g rfl ?_ ?_); rfl; intro _)
        | (go_at_call 119; (with_reducible refine (HB.out).mono ?_); rintro e w1 ⟨rfl, rfl⟩)
        | (go_at_call 148; (with_reducible refine (HR.out _).mono ?_); rintro e w1 ⟨rfl, hO, hC⟩))
      go_ret
      exact ⟨rfl, hO, hC⟩
    · rw [if_neg (by omega), if_pos (Or.inl h3)]
      go_enter Tryz.func77, Tryz.ntmps77
      go_wp2_with (first
        | ((with_reducible refine skip_g rfl ?_ ?_); rfl; intro _)
        | (go_at_call 119; (with_reducible refine (HB.out).mono ?_); rintro e w1 ⟨rfl, rfl⟩)
        | (go_at_call 148; (with_reducible refine (HR.out _).mono ?_); rintro e w1 ⟨rfl, hO, hC⟩))
      go_ret
      exact ⟨rfl, hO, hC⟩
    · rw [if_neg (by omega), if_pos (Or.inr h4)]
      go_enter Tryz.func77, Tryz.ntmps77
      go_wp2_with (first
        | ((with_reducible refine skip_g rfl ?_ ?_); rfl; intro _)
        | (go_at_call 119; (with_reducible refine (HB.out).mono ?_); rintro e w1 ⟨rfl, rfl⟩)
        | (go_at_call 148; (with_reducible refine (HR.out _).mono ?_); rintro e w1 ⟨rfl, hO, hC⟩))
      go_ret
      exact ⟨rfl, hO, hC⟩
    · rw [if_neg (by omega), if_neg (by omega)]
      go_enter Tryz.func77, Tryz.ntmps77
      go_wp2_with (first
        | ((with_reducible refine skip_g rfl ?_ ?_); rfl; intro _)
        | (go_at_call 119; (with_reducible refine (HB.out).mono ?_); rintro e w1 ⟨rfl, rfl⟩))
      go_ret
      exact ⟨rfl, H.out, Chg.refl _ _⟩
def Led.give (s : Led) (n : Int) : Led × Bool := if n < 0 ∨ s.bt < n then (s, false) else ({ s with bt := s.bt - n }, true)
theorem Led.give_ok {s : Led} (h : s.ok) (n : Int) : (s.give n).1.ok := by
  obtain ⟨a, b, c, d, e, f⟩ := h
  unfold Led.give
  by_cases h2 : n < 0 ∨ s.bt < n
  · rw [if_pos h2]; exact ⟨a, b, c, d, e, f⟩
  · rw [if_neg h2]; exact ⟨by show 0 ≤ s.bt - n; omega, by show s.bt - n ≤ s.mb; omega, c, d, e, f⟩
set_option maxRecDepth 100000 in
set_option maxHeartbeats 4000000 in
theorem give_any (L : Nat) (s : Led) (n : Int) (w : World) (h : LedAt w L s) : Calls Tryz.prog 210 #[.pointer (some ⟨L, 0, none⟩), .int .i64 n] w fun e w' =>
      e = .returned (.bool (s.give n).2) ∧ LedAt w' L (s.give n).1 ∧ Chg (· = L) w w' := by
  have hk := Led.give_ok h.ok n
  have HL := Hi (aload64 L 4 s.bt w ((h.obj.cell 4).trans rfl))
  have HC := Hi (fun y => acas64 L 4 s.bt y w ((h.obj.cell 4).trans rfl) (h.obj.frozen 4))
  have H := Hi h
  have hb0 := h.ok.b0
  have hb1 := h.ok.b1
  have hb2 := h.ok.b2
  have FIN := Hi (fun (hh : ¬ (n < 0 ∨ s.bt < n)) => (show LedAt (w.setCell ⟨L, 4, none⟩ (.int .i64 (s.bt - n))) L (s.give n).1 from ⟨by unfold Led.give; rw [if_neg hh]; exact h.obj.set 4 _, hk⟩))
  have CH := Hi (fun v => (Chg.refl (· = L) w).set ⟨L, 4, none⟩ v (Or.inl rfl))
  have h' : (n < 0 ∨ s.bt < n) → (s.give n) = (s, false) := fun hh => by unfold Led.give; rw [if_pos hh]
  have h2' : ¬ (n < 0 ∨ s.bt < n) → (s.give n).2 = true := fun hh => by unfold Led.give; rw [if_neg hh]
  have HN := Hi h'
  have HY := Hi h2'
  clear h' h2' hk h
  obtain ⟨bt, hbt⟩ : ∃ b, s.bt = b := ⟨_, rfl⟩
  rw [hbt] at HL HC hb0 hb1 HN HY FIN
  clear hbt
  have hcase : (n < 0) ∨ (¬ n < 0 ∧ bt < n) ∨ (¬ n < 0 ∧ ¬ bt < n) := by omega
  rcases hcase with h1 | ⟨h1, h2⟩ | ⟨h1, h2⟩
  · rw [HN.out (Or.inl h1)]
    go_enter Tryz.func210, Tryz.ntmps210
    go_wp2
    refine wp_loop_rounds 1 ?_
    rw [rounds_succ]
    go_wp2_with (first
      | ((with_reducible refine skip_g rfl ?_ ?_); rfl; intro _)
      | (go_at_call 80; (with_reducible refine (HL.out).mono ?_); rintro e w1 ⟨rfl, rfl⟩))
    go_ret
    exact ⟨rfl, H.out, Chg.refl _ _⟩
  · rw [HN.out (Or.inr h2)]
    go_enter Tryz.func210, Tryz.ntmps210
    go_wp2
    refine wp_loop_rounds 1 ?_
    rw [rounds_succ]
    go_wp2_with (first
      | ((with_reducible refine skip_g rfl ?_ ?_); rfl; intro _)
      | (go_at_call 80; (with_reducible refine (HL.out).mono ?_); rintro e w1 ⟨rfl, rfl⟩))
    go_ret
    exact ⟨rfl, H.out, Chg.refl _ _⟩
  · rw [HY.out (by omega)]
    have FIN := Hi (FIN.out (by omega))
    go_enter Tryz.func210, Tryz.ntmps210
    go_wp2
    refine wp_loop_rounds 1 ?_
    rw [rounds_succ]
    go_wp2_with (first
      | ((with_reducible refine skip_g rfl ?_ ?_); rfl; intro _)
      | (go_at_call 80; (with_reducible refine (HL.out).mono ?_); rintro e w1 ⟨rfl, rfl⟩)
      | (go_at_call 217; (with_reducible refine (HC.out _).mono ?_); rintro e w3 ⟨rfl, rfl⟩))
    go_ret
    exact ⟨rfl, FIN.out, CH.out _⟩
end Go.Proofs.YtlfbaggcfaenlaaGreat
namespace Go.Proofs.YtlfbaggcfaenlaaGreat
open Go.RowKit
theorem owns_eq {w : World} {base e n n' : Nat} {v : Value} {xs xs' : List Value} (h : w.ownsRow base e 1 v n xs) (hn : n = n') (hx : xs = xs') : w.ownsRow base e 1 v n' xs' := by subst hn hx; exact h
end Go.Proofs.YtlfbaggcfaenlaaGreat
namespace Go.Proofs.YtlfbaggcfaenlaaGreat
open Go.RowKit
set_option linter.unusedVariables false
set_option linter.unusedSimpArgs false
structure Bf where
  L : Nat
  g : Nat
  d : List Int
  op : Bool
def Bf.cells (b : Bf) : List Value := [.pointer (some ⟨b.L, 0, none⟩), if b.op = true then .slice (some ⟨b.g, 0, none⟩) b.d.length b.d.length else .slice none 0 0, .int .u32 (if b.op = true then 0 else 1), .int .i32 0, .int .u32 0]
def u8s (l : List Int) : List Value := l.map (.int .u8)
structure BufAt (w : World) (B : Nat) (b : Bf) : Prop where
  obj : Obj1 w B b.cells.toArray 233
  dat : b.op = true → Obj1 w b.g (u8s b.d).toArray 5
  byt : ∀ x ∈ b.d, 0 ≤ x ∧ x < 256
  ne : B ≠ b.g
  nl : B ≠ b.L
  gl : b.g ≠ b.L
  sz : b.d.length ≤ 2147483648
theorem BufAt.chg {S : Nat → Prop} {w w' : World} {B : Nat} {b : Bf} (h : BufAt w B b) (hc : Chg S w w') (h1 : ¬ S B) (h2 : ¬ S b.g) : BufAt w' B b :=
  ⟨hc.obj h.obj h1, fun ho => hc.obj (h.dat ho) h2, h.byt, h.ne, h.nl, h.gl, h.sz⟩
theorem BufAt.c0 {w : World} {B : Nat} {b : Bf} (h : BufAt w B b) : w.cell? ⟨B, 0, none⟩ = some (.pointer (some ⟨b.L, 0, none⟩)) := (h.obj.cell 0).trans rfl
theorem BufAt.c1 {w : World} {B : Nat} {b : Bf} (h : BufAt w B b) (ho : b.op = true) : w.cell? ⟨B, 1, none⟩ = some (.slice (some ⟨b.g, 0, none⟩) b.d.length b.d.length) := (h.obj.cell 1).trans (by unfold Bf.cells; rw [if_pos ho]; rfl)
theorem BufAt.c1n {w : World} {B : Nat} {b : Bf} (h : BufAt w B b) (ho : b.op = false) : w.cell? ⟨B, 1, none⟩ = some (.slice none 0 0) := (h.obj.cell 1).trans (by unfold Bf.cells; rw [ho]; rfl)
theorem BufAt.lt {w : World} {B : Nat} {b : Bf} (h : BufAt w B b) : B < w.heap.size := h.obj.lt
theorem BufAt.glt {w : World} {B : Nat} {b : Bf} (h : BufAt w B b) (ho : b.op = true) : b.g < w.heap.size := (h.dat ho).lt
def Bf.there (b : Bf) (i n : Int) : Bool := b.op && decide (0 ≤ i) && decide (0 ≤ n) && decide (i ≤ b.d.length) && decide (n ≤ (b.d.length : Int) - i)
theorem bthere_any (B : Nat) (b : Bf) (i n : Int) (w : World) (h : BufAt w B b) (hi : i ≤ 4611686018427387904) : Calls Tryz.prog 227 #[.pointer (some ⟨B, 0, none⟩), .int .i64 i, .int .i64 n] w fun e w' => e = .returned (.bool (b.there i n)) ∧ w' = w := by
  have hsz := h.sz
  cases ho : b.op with
  | false =>
    have c1 := h.c1n ho
    have HT := Hi (show b.there i n = false by unfold Bf.there; rw [ho]; rfl)
    rw [HT.out]
    clear h ho
    go_enter Tryz.func227, Tryz.ntmps227
    go_wp2_with ((with_reducible refine skip_g rfl ?_ ?_); rfl; intro _)
    go_ret
    exact ⟨rfl, rfl⟩
  | true =>
    have c1 := h.c1 ho
    have HT : b.there i n = (decide (0 ≤ i) && decide (0 ≤ n) && decide (i ≤ b.d.length) && decide (n ≤ (b.d.length : Int) - i)) := by unfold Bf.there; rw [ho]; rfl
    obtain ⟨m, hm⟩ : ∃ m, b.d.length = m := ⟨_, rfl⟩
    rw [hm] at c1 HT hsz
    rw [HT]
    clear h ho hm HT
    have hcase : (i < 0) ∨ (¬ i < 0 ∧ n < 0) ∨ (¬ i < 0 ∧ ¬ n < 0 ∧ (m : Int) < i) ∨ (¬ i < 0 ∧ ¬ n < 0 ∧ ¬ (m : Int) < i ∧ (m : Int) - i < n) ∨ (¬ i < 0 ∧ ¬ n < 0 ∧ ¬ (m : Int) < i ∧ ¬ (m : Int) - i < n) := by omega
    rcases hcase with h1 | ⟨h1, h2⟩ | ⟨h1, h2, h3⟩ | ⟨h1, h2, h3, h4⟩ | ⟨h1, h2, h3, h4⟩
    · have HR := Hi (show (decide (0 ≤ i) && decide (0 ≤ n) && decide (i ≤ (m : Int)) && decide (n ≤ (m : Int) - i)) = false by rw [decide_eq_false (show ¬ 0 ≤ i by omega)]; rfl)
      rw [HR.out]
      go_enter Tryz.func227, Tryz.ntmps227
      go_wp2_with ((with_reducible refine skip_g rfl ?_ ?_); rfl; intro _)
      go_ret
      exact ⟨rfl, rfl⟩
    · have HR := Hi (show (decide (0 ≤ i) && decide (0 ≤ n) && decide (i ≤ (m : Int)) && decide (n ≤ (m : Int) - i)) = false by rw [decide_eq_false (show ¬ 0 ≤ n by omega), Bool.and_false]; rfl)
      rw [HR.out]
      go_enter Tryz.func227, Tryz.ntmps227
      go_wp2_with ((with_reducible refine skip_g rfl ?_ ?_); rfl; intro _)
      go_ret
      exact ⟨rfl, rfl⟩
    · have HR := Hi (show (decide (0 ≤ i) && decide (0 ≤ n) && decide (i ≤ (m : Int)) && decide (n ≤ (m : Int) - i)) = false by rw [decide_eq_false (show ¬ i ≤ (m : Int) by omega), Bool.and_false]; rfl)
      rw [HR.out]
      go_enter Tryz.func227, Tryz.ntmps227
      go_wp2_with ((with_reducible refine skip_g rfl ?_ ?_); rfl; intro _)
      go_ret
      exact ⟨rfl, rfl⟩
    · have HR := Hi (show (decide (0 ≤ i) && decide (0 ≤ n) && decide (i ≤ (m : Int)) && decide (n ≤ (m : Int) - i)) = false by rw [decide_eq_false (show ¬ n ≤ (m : Int) - i by omega), Bool.and_false])
      rw [HR.out]
      have g4 : ¬ n ≤ (m : Int) - i := by omega
      go_enter Tryz.func227, Tryz.ntmps227
      go_wp2_with ((with_reducible refine skip_g rfl ?_ ?_); rfl; intro _)
      go_ret
      exact ⟨rfl, rfl⟩
    · have HR := Hi (show (decide (0 ≤ i) && decide (0 ≤ n) && decide (i ≤ (m : Int)) && decide (n ≤ (m : Int) - i)) = true by rw [decide_eq_true (show 0 ≤ i by omega), decide_eq_true (show 0 ≤ n by omega), decide_eq_true (show i ≤ (m : Int) by omega), decide_eq_true (show n ≤ (m : Int) - i by omega)]; rfl)
      have g1 : 0 ≤ i := by omega
      have g2 : 0 ≤ n := by omega
      have g3 : i ≤ (m : Int) := by omega
      have g4 : n ≤ (m : Int) - i := by omega
      clear h1 h2 h3 h4
      rw [HR.out]
      go_enter Tryz.func227, Tryz.ntmps227
      go_wp2_with ((with_reducible refine skip_g rfl ?_ ?_); rfl; intro _)
      go_ret
      exact ⟨rfl, rfl⟩
def zeros8 (n : Nat) : List Int := List.replicate n 0
theorem mkU8 (w : World) (n : Nat) (hn : n ≤ 2147483648) : (Instr.makeSlice 61 (.int .i64 n) (.int .i64 n)).run Tryz.prog w = .ok (.slice (some ⟨w.heap.size, 0, none⟩) n n) (w.alloc (.cells (u8s (zeros8 n)).toArray 5)) := by
  obtain ⟨i, hi, hz0, hz1, hz2⟩ := info_parts (P := Tryz.prog) (e := 5) (z := .int .u8 0) (size := 1) (bytes := 1) (by kernel_rfl)
  have hr := run_make (P := Tryz.prog) w 61 5 i _ Tryz.underlying61 hi hz0 .i64 .i64 n n (by omega) (Int.le_refl _) (by rw [hz2]; omega) (by omega)
  rw [hr, hz1]
  have e : madeCells (Value.int .u8 0).cells (n * 1) = (u8s (zeros8 n)).toArray := by
    have h1 := toList_madeCells_one (Value.int .u8 0) n
    rw [Nat.mul_one]
    apply Array.ext'
    show (madeCells #[Value.int .u8 0] n).toList = _
    rw [h1]
    simp [u8s, zeros8]
  simp only [Int.toNat_natCast]
  rw [e]
def MakePost (w : World) (L : Nat) (s : Led) (n : Int) (e : Ending) (w' : World) : Prop :=
  (if n < 0 then e = .returned (.tuple #[.pointer none, .int .i64 1]) ∧ LedAt w' L s else
   if (s.take n).2 = false then e = .returned (.tuple #[.pointer none, .int .i64 4]) ∧ LedAt w' L (s.take n).1 else
   ∃ B g, e = .returned (.tuple #[.pointer (some ⟨B, 0, none⟩), .int .i64 0]) ∧ LedAt w' L (s.take n).1 ∧ BufAt w' B ⟨L, g, zeros8 n.toNat, true⟩ ∧ w.heap.size ≤ B ∧ w.heap.size ≤ g) ∧ Chg (· = L) w w'
set_option maxRecDepth 100000 in
set_option maxHeartbeats 4000000 in
theorem bmake_any (L : Nat) (s : Led) (n : Int) (w : World) (h : LedAt w L s) (hn : n ≤ 2147483648) : Calls Tryz.prog 79 #[.pointer (some ⟨L, 0, none⟩), .int .i64 n] w (MakePost w L s n) := by
  have HL := Hi h
  by_cases h1 : n < 0
  · have HN := Hi h1
    clear h
    go_enter Tryz.func79, Tryz.ntmps79
    go_wp2_with ((with_reducible refine skip_g rfl ?_ ?_); rfl; intro _)
    go_ret2
    unfold MakePost
    rw [if_pos HN.out]
    exact ⟨⟨rfl, HL.out⟩, Chg.refl _ _⟩
  have HN := Hi (show ¬ n < 0 from h1)
  have HT := Hi (ltake_any L s n w h)
  have hlt := h.lt
  obtain ⟨n, rfl⟩ := Int.eq_ofNat_of_zero_le (show 0 ≤ n by omega)
  clear h
  cases hb : (s.take n).2 with
  | false =>
    have HT := Hi (HT.out.mono (R' := fun e w' => e = .returned (.bool false) ∧ LedAt w' L (s.take n).1 ∧ Chg (· = L) w w') fun e w' hh => by rw [hb] at hh; exact hh)
    have HB := Hi hb
    clear hb
    go_enter Tryz.func79, Tryz.ntmps79
    go_wp2_with (first
      | ((with_reducible refine skip_g rfl ?_ ?_); rfl; intro _)
      | (go_at_call 151; (with_reducible refine (HT.out).mono ?_); rintro e w1 ⟨rfl, hL, hC⟩))
    go_ret2
    unfold MakePost
    rw [if_neg (Int.not_lt.2 HN.out), if_pos HB.out]
    exact ⟨⟨rfl, hL⟩, hC⟩
  | true =>
    have HT := Hi (HT.out.mono (R' := fun e w' => e = .returned (.bool true) ∧ LedAt w' L (s.take n).1 ∧ Chg (· = L) w w') fun e w' hh => by rw [hb] at hh; exact hh)
    have HM := fun w0 => mkU8 w0 n (by omega)
    have HB := Hi hb
    clear hb
    go_enter Tryz.func79, Tryz.ntmps79
    go_wp2_with (first
      | ((with_reducible refine skip_g rfl ?_ ?_); rfl; intro _)
      | ((go_at_call 151; (with_reducible refine (HT.out).mono ?_); rintro e w1 ⟨rfl, hL, hC⟩); have H1 := Hi hL; have C1 := Hi hC; clear hL hC))
    go_ret2
    have hw := C1.out.size
    have hz : (zeros8 n).length = n := by simp [zeros8]
    have hO := obj1_new (w1.alloc (.cells (u8s (zeros8 n)).toArray 5)) (Bf.cells ⟨L, w1.heap.size, zeros8 n, true⟩).toArray 233
    have hD := (obj1_new w1 (u8s (zeros8 n)).toArray 5).alloc (.cells (Bf.cells ⟨L, w1.heap.size, zeros8 n, true⟩).toArray 233)
    have eC : (Bf.cells ⟨L, w1.heap.size, zeros8 n, true⟩).toArray = #[.pointer (some ⟨L, 0, none⟩), .slice (some ⟨w1.heap.size, 0, none⟩) n n, .int .u32 0, .int .i32 0, .int .u32 0] := by unfold Bf.cells; rw [hz]; rfl
    rw [eC] at hO hD
    rw [show (w1.alloc (.cells (u8s (zeros8 n)).toArray 5)).heap.size = w1.heap.size + 1 by simp] at hO
    have hll : L < w1.heap.size := H1.out.lt
    unfold MakePost
    rw [if_neg (Int.not_lt.2 HN.out), if_neg (by rw [HB.out]; decide)]
    refine ⟨⟨w1.heap.size + 1, w1.heap.size, rfl, ⟨(H1.out.obj.alloc _).alloc _, H1.out.ok⟩, ⟨by rw [show ((n : Int)).toNat = n from rfl, eC]; exact hO, fun _ => hD, ?_, by show w1.heap.size + 1 ≠ w1.heap.size; omega, by show w1.heap.size + 1 ≠ L; omega, by show w1.heap.size ≠ L; omega, by rw [show ((n : Int)).toNat = n from rfl]; show (zeros8 n).length ≤ _; omega⟩, by omega, by omega⟩, (C1.out.alloc _).alloc _⟩
    intro x hx
    have : x = 0 := by
      have := List.eq_of_mem_replicate (show x ∈ List.replicate n (0 : Int) from hx)
      exact this
    subst this; decide
end Go.Proofs.YtlfbaggcfaenlaaGreat

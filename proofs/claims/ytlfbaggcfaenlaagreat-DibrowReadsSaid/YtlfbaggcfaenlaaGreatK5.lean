/- Appends to slices of the call's own, beside other objects. No program in sight. -/
import Derived.Test.YtlfbaggcfaenlaaGreatK3
import Derived.Test.YtlfbaggcfaenlaaGreatK1
import Derived.Deep.AppendLies
import Derived.Deep.RegionLaw
import Derived.Shelf.Bits.Mul64
import Derived.Test.YtlfbaggcfaenlaaGreatK2
import Derived.Test.YtlfbaggcfaenlaaGreatK0
import Derived.OrdersHeld
import Derived.Deep.RegionHeld
import Derived.Deep.RegionHeld3
namespace Go.Proofs.YtlfbaggcfaenlaaGreat
open Go.RowKit
set_option linter.unusedVariables false
theorem owns_blk {w : World} {base e size n : Nat} {v : Value} {xs : List Value} (h : w.ownsRow base e size v n xs) {g : Nat} (hg : v.ownBlock = some g) : base ≤ g ∧ g < w.heap.size := by
  obtain ⟨h1, h2⟩ := h
  rcases h2 with ⟨rfl, _⟩ | ⟨g', cap, cur, rfl, hb, hg', _⟩
  · simp [Value.ownBlock] at hg
  · have : g' = g := by simpa [Value.ownBlock] using hg
    subst this
    exact ⟨hb, (Array.getElem?_eq_some_iff.1 hg').1⟩
theorem Chg.after {S S' : Nat → Prop} {a b c : World} (h : Chg S a b) (k : Chg S' b c) (hS : ∀ n, n < a.heap.size → S' n → S n) : Chg S a c :=
  ⟨k.os.trans h.os, k.tape.trans h.tape, k.output.trans h.output, Nat.le_trans h.size k.size, fun n hn hs => (k.block n (Nat.lt_of_lt_of_le hn h.size) (fun h' => hs (hS n hn h'))).trans (h.block n hn hs)⟩
theorem range_below {w w' : World} {B b o : Nat} {L : List Value} (h : w.rangeAt b o L) (hb : Below B w w') (hlt : b < B) : w'.rangeAt b o L := fun j v hv => (World.cell?_of_block (w := w) (hb.block b hlt)).trans (h j v hv)
end Go.Proofs.YtlfbaggcfaenlaaGreat
namespace Go.Proofs.YtlfbaggcfaenlaaGreat
open Go.RowKit
set_option linter.unusedVariables false
set_option linter.unusedSimpArgs false
def isN (v : Int) : Bool := decide (0 ≤ v) && decide (v ≤ 4611686018427387904)
set_option maxRecDepth 100000 in
set_option maxHeartbeats 4000000 in
theorem is_any (L : List Int) (n B cap : Nat) (w : World) (hn : n = L.length) (h9 : n ≤ 100) (hR : w.rangeAt B 0 (L.map (.int .i64))) : Calls Tryz.prog 214 #[.slice (some ⟨B, 0, none⟩) n cap] w fun e w' => e = .returned (.bool (L.all isN)) ∧ w' = w := by
  obtain ⟨R, hRR⟩ : ∃ R, L.all isN = R := ⟨_, rfl⟩
  have HRR := Hi hRR
  have HR := Hi hR
  have HN := Hi hn
  rw [hRR]
  clear hRR hR hn
  go_enter Tryz.func214, Tryz.ntmps214
  go_wp2
  go_loop [4, 7] (fun _ c => ∃ i : Nat, i ≤ n ∧ c = .int .i64 i ∧ (L.drop i).all isN = R) (fun _ c => n - (intOf c).toNat)
  case atStart => exact ⟨0, by omega, rfl, HRR.out⟩
  case round =>
    obtain ⟨i, hi, rfl, hf⟩ := hrel
    by_cases hlt : i < n
    rotate_left
    · have hge : n ≤ i := by omega
      have HF := Hi (show R = true by rw [← hf, List.drop_of_length_le (by rw [← HN.out]; exact hge)]; rfl)
      clear hf
      go_wp2
      go_ret
      exact ⟨by rw [HF.out]; rfl, rfl⟩
    · have hlt2 : i < L.length := by rw [← HN.out]; exact hlt
      obtain ⟨v, hv⟩ : ∃ v, L[i] = v := ⟨_, rfl⟩
      have hd : L.drop i = v :: L.drop (i + 1) := by rw [List.drop_eq_getElem_cons hlt2, hv]
      have c0 : w.cell? ⟨B, i, none⟩ = some (.int .i64 v) := by have := HR.out i (.int .i64 v) (by rw [List.getElem?_map, List.getElem?_eq_getElem hlt2, hv]; rfl); rwa [Nat.zero_add] at this
      rw [hd, List.all_cons] at hf
      have hge : ¬ n ≤ i := by omega
      have HF := Hi hf
      clear hd hv hf
      by_cases h1 : v < 0
      · have D1 : decide (v < 0) = true := decide_eq_true h1
        have E := Hi (show R = false by rw [← HF.out, show isN v = false by unfold isN; rw [decide_eq_false (by omega)]; rfl]; rfl)
        clear h1
        go_wp2_with ((with_reducible refine skip_g rfl ?_ ?_); rfl; intro _)
        go_ret
        exact ⟨by rw [E.out]; rfl, rfl⟩
      · have D1 : decide (v < 0) = false := decide_eq_false h1
        by_cases h2 : v > 4611686018427387904
        · have D2 : decide (v > 4611686018427387904) = true := decide_eq_true h2
          have E := Hi (show R = false by rw [← HF.out, show isN v = false by unfold isN; rw [decide_eq_false (show ¬ v ≤ 4611686018427387904 by omega)]; simp]; rfl)
          clear h1 h2
          go_wp2_with ((with_reducible refine skip_g rfl ?_ ?_); rfl; intro _)
          go_ret
          exact ⟨by rw [E.out]; rfl, rfl⟩
        · have D2 : decide (v > 4611686018427387904) = false := decide_eq_false h2
          have E := Hi (show (L.drop (i + 1)).all isN = R by rw [← HF.out, show isN v = true by unfold isN; rw [decide_eq_true (by omega), decide_eq_true (by omega)]; rfl]; rfl)
          clear h1 h2
          go_wp2_with ((with_reducible refine skip_g rfl ?_ ?_); rfl; intro _)
          go_round
          case rel => exact ⟨i + 1, by omega, by go_num, E.out⟩
          case measure => simp [intOf]; omega
set_option maxHeartbeats 1000000 in
theorem mul64_any (x y : Nat) (hx : x < 18446744073709551616) (hy : y < 18446744073709551616) (w : World) :
    Calls Tryz.prog 215 #[.int .u64 x, .int .u64 y] w fun e w' => e = .returned (.tuple #[.int .u64 ((x * y / 18446744073709551616 : Nat) : Int), .int .u64 ((x * y % 18446744073709551616 : Nat) : Int)]) ∧ w' = w := by
  obtain ⟨bd, bt, bw, hhi⟩ := Lib.mul64_hi x y hx hy
  have ba := Lib.half_mul_le (a := x / 4294967296) (b := y / 4294967296) (by omega) (by omega)
  have bb := Lib.half_mul_le (a := x / 4294967296) (b := y % 4294967296) (by omega) (by omega)
  have bc := Lib.half_mul_le (a := x % 4294967296) (b := y / 4294967296) (by omega) (by omega)
  have ba' : x / 4294967296 * (y / 4294967296) < 18446744073709551616 := by omega
  have bb' : x / 4294967296 * (y % 4294967296) < 18446744073709551616 := by omega
  have bc' : x % 4294967296 * (y / 4294967296) < 18446744073709551616 := by omega
  have bh1 : x / 4294967296 * (y / 4294967296) + (x / 4294967296 * (y % 4294967296) + x % 4294967296 * (y % 4294967296) / 4294967296) / 4294967296 < 18446744073709551616 := by omega
  have bh : x / 4294967296 * (y / 4294967296) + (x / 4294967296 * (y % 4294967296) + x % 4294967296 * (y % 4294967296) / 4294967296) / 4294967296 + ((x / 4294967296 * (y % 4294967296) + x % 4294967296 * (y % 4294967296) / 4294967296) % 4294967296 + x % 4294967296 * (y / 4294967296)) / 4294967296 < 18446744073709551616 := by omega
  go_enter Tryz.func215, Tryz.ntmps215
  go_wp2
  simp only [Mul64.maskN x hx, Mul64.maskN y hy, Mul64.divN, Mul64.mulN, Mul64.addN, Mul64.wrapN _ bd, Mul64.wrapN _ bb', Mul64.wrapN _ bt, Mul64.maskN _ bt, Mul64.wrapN _ bc', Mul64.wrapN _ bw, Mul64.wrapN _ ba', Mul64.wrapN _ bh1, Mul64.wrapN _ bh, Mul64.wrapM (x * y)]
  rw [hhi]
  go_ret2
  exact ⟨rfl, rfl⟩
def lowK (s : ByteArray) (a : Nat) : Nat → Int
  | 0 => 0
  | k + 1 => lowK s a k + byN s (a + k) * 2 ^ (8 * k)
theorem lowK_bd (s : ByteArray) (a k : Nat) : 0 ≤ lowK s a k ∧ lowK s a k < 2 ^ (8 * k) := by
  induction k with
  | zero => simp [lowK]
  | succ k ih =>
    have hb := byN_bd s (a + k)
    have hp := pow_pos' (8 * k)
    have h0 : 0 ≤ byN s (a + k) * 2 ^ (8 * k) := Int.mul_nonneg hb.1 (by omega)
    have h1 : byN s (a + k) * 2 ^ (8 * k) ≤ 255 * 2 ^ (8 * k) := Int.mul_le_mul_of_nonneg_right (by omega) (by omega)
    rw [pow8, lowK]; omega
theorem lowK_lo (s : ByteArray) (a b k : Nat) (h : a + k ≤ b) (hb : b ≤ s.size) : loK (s.extract a b) k = lowK s a k := by
  induction k with
  | zero => rfl
  | succ k ih => rw [loK, lowK, ih (by omega), byN_ext s a b k (by omega) hb]
def headsB (n : Int) : Bool := n == 12 || (n == 40 || (n == 52 || (n == 56 || (n == 108 || n == 124))))
def knownH (n : Int) : Bool := headsB n || (n == 16 || n == 64)
def dpB (n : Int) (more : Bool) : Bool := (n == 1 || (n == 4 || (n == 8 || n == 24))) || ((n == 16 || n == 32) && more)
def fitsB (m n : Int) : Bool := if m = 1 then n == 8 else if m = 2 then n == 4 else if m = 3 then n == 16 || n == 32 else true
def mostI (n : Int) : Int := if n ≤ 8 then 2 ^ n.toNat else 256
theorem eqf {a b : Int} (h : ¬ a = b) : (a == b) = false := by simpa using h
theorem heads_any (n : Int) (w : World) : Calls Tryz.prog 136 #[.int .i64 n] w fun e w' => e = .returned (.bool (headsB n)) ∧ w' = w := by
  by_cases h1 : n = 12
  · subst h1
    go_enter Tryz.func136, Tryz.ntmps136
    go_wp2; go_ret; exact ⟨rfl, rfl⟩
  by_cases h2 : n = 40
  · subst h2
    go_enter Tryz.func136, Tryz.ntmps136
    go_wp2; go_ret; exact ⟨rfl, rfl⟩
  by_cases h3 : n = 52
  · subst h3
    go_enter Tryz.func136, Tryz.ntmps136
    go_wp2; go_ret; exact ⟨rfl, rfl⟩
  by_cases h4 : n = 56
  · subst h4
    go_enter Tryz.func136, Tryz.ntmps136
    go_wp2; go_ret; exact ⟨rfl, rfl⟩
  by_cases h5 : n = 108
  · subst h5
    go_enter Tryz.func136, Tryz.ntmps136
    go_wp2; go_ret; exact ⟨rfl, rfl⟩
  by_cases h6 : n = 124
  · subst h6
    go_enter Tryz.func136, Tryz.ntmps136
    go_wp2; go_ret; exact ⟨rfl, rfl⟩
  have e1 := eqf h1
  have e2 := eqf h2
  have e3 := eqf h3
  have e4 := eqf h4
  have e5 := eqf h5
  have e6 := eqf h6
  have E := Hi (show headsB n = false by unfold headsB; rw [e1, e2, e3, e4, e5, e6]; rfl)
  clear h1 h2 h3 h4 h5 h6
  go_enter Tryz.func136, Tryz.ntmps136
  go_wp2
  go_ret
  exact ⟨ret_b E.out.symm, rfl⟩
theorem known_any (n : Int) (w : World) : Calls Tryz.prog 135 #[.int .i64 n] w fun e w' => e = .returned (.bool (knownH n)) ∧ w' = w := by
  have HH := Hi (fun w0 => heads_any n w0)
  obtain ⟨b, hb⟩ : ∃ b, headsB n = b := ⟨_, rfl⟩
  obtain ⟨b1, hb1⟩ : ∃ b, (n == 16) = b := ⟨_, rfl⟩
  obtain ⟨b2, hb2⟩ : ∃ b, (n == 64) = b := ⟨_, rfl⟩
  have E := Hi (show knownH n = (b || (b1 || b2)) by unfold knownH; rw [hb, hb1, hb2])
  rw [hb] at HH
  clear hb
  go_enter Tryz.func135, Tryz.ntmps135
  cases b <;> cases b1
  all_goals go_wp2_with (first | ((with_reducible refine skip_g rfl ?_ ?_); rfl; intro _) | (go_at_call 136; (with_reducible refine (HH.out _).mono ?_); rintro e w1 ⟨rfl, rfl⟩))
  all_goals (go_ret; exact ⟨ret_b (by rw [E.out]; simp), rfl⟩)
theorem hdepth_any (n : Int) (more : Bool) (w : World) : Calls Tryz.prog 139 #[.int .i64 n, .bool more] w fun e w' => e = .returned (.bool (dpB n more)) ∧ w' = w := by
  by_cases h1 : n = 1
  · subst h1
    go_enter Tryz.func139, Tryz.ntmps139
    go_wp2; go_ret; exact ⟨rfl, rfl⟩
  by_cases h2 : n = 4
  · subst h2
    go_enter Tryz.func139, Tryz.ntmps139
    go_wp2; go_ret; exact ⟨rfl, rfl⟩
  by_cases h3 : n = 8
  · subst h3
    go_enter Tryz.func139, Tryz.ntmps139
    go_wp2; go_ret; exact ⟨rfl, rfl⟩
  by_cases h4 : n = 24
  · subst h4
    go_enter Tryz.func139, Tryz.ntmps139
    go_wp2; go_ret; exact ⟨rfl, rfl⟩
  by_cases h5 : n = 16
  · subst h5
    go_enter Tryz.func139, Tryz.ntmps139
    go_wp2; go_ret; exact ⟨by cases more <;> rfl, rfl⟩
  by_cases h6 : n = 32
  · subst h6
    go_enter Tryz.func139, Tryz.ntmps139
    go_wp2; go_ret; exact ⟨by cases more <;> rfl, rfl⟩
  have e1 := eqf h1
  have e2 := eqf h2
  have e3 := eqf h3
  have e4 := eqf h4
  have e5 := eqf h5
  have e6 := eqf h6
  have E := Hi (show dpB n more = false by unfold dpB; rw [e1, e2, e3, e4, e5, e6]; rfl)
  clear h1 h2 h3 h4 h5 h6
  go_enter Tryz.func139, Tryz.ntmps139
  go_wp2
  go_ret
  exact ⟨ret_b E.out.symm, rfl⟩
theorem rdepth_any (n : Int) (w : World) : Calls Tryz.prog 90 #[.int .i64 n] w fun e w' => e = .returned (.bool (dpB n true)) ∧ w' = w := by
  by_cases h1 : n = 1
  · subst h1
    go_enter Tryz.func90, Tryz.ntmps90
    go_wp2; go_ret; exact ⟨rfl, rfl⟩
  by_cases h2 : n = 4
  · subst h2
    go_enter Tryz.func90, Tryz.ntmps90
    go_wp2; go_ret; exact ⟨rfl, rfl⟩
  by_cases h3 : n = 8
  · subst h3
    go_enter Tryz.func90, Tryz.ntmps90
    go_wp2; go_ret; exact ⟨rfl, rfl⟩
  by_cases h4 : n = 16
  · subst h4
    go_enter Tryz.func90, Tryz.ntmps90
    go_wp2; go_ret; exact ⟨rfl, rfl⟩
  by_cases h5 : n = 24
  · subst h5
    go_enter Tryz.func90, Tryz.ntmps90
    go_wp2; go_ret; exact ⟨rfl, rfl⟩
  have e1 := eqf h1
  have e2 := eqf h2
  have e3 := eqf h3
  have e4 := eqf h4
  have e5 := eqf h5
  obtain ⟨b6, e6⟩ : ∃ b, (n == 32) = b := ⟨_, rfl⟩
  have E := Hi (show dpB n true = b6 by unfold dpB; rw [e1, e2, e3, e4, e5, e6]; simp)
  clear h1 h2 h3 h4 h5
  go_enter Tryz.func90, Tryz.ntmps90
  go_wp2_with ((with_reducible refine skip_g rfl ?_ ?_); rfl; intro _)
  go_ret
  exact ⟨ret_b E.out.symm, rfl⟩
theorem fits_any (m n : Int) (w : World) : Calls Tryz.prog 140 #[.int .i64 m, .int .i64 n] w fun e w' => e = .returned (.bool (fitsB m n)) ∧ w' = w := by
  by_cases h1 : m = 1
  · subst h1
    go_enter Tryz.func140, Tryz.ntmps140
    go_wp2; go_ret; exact ⟨rfl, rfl⟩
  by_cases h2 : m = 2
  · subst h2
    go_enter Tryz.func140, Tryz.ntmps140
    go_wp2; go_ret; exact ⟨rfl, rfl⟩
  by_cases h3 : m = 3
  · subst h3
    obtain ⟨b, hb⟩ : ∃ b, (n == 16) = b := ⟨_, rfl⟩
    have E := Hi (show fitsB 3 n = (b || (n == 32)) by unfold fitsB; rw [if_neg (by decide), if_neg (by decide), if_pos rfl, hb])
    go_enter Tryz.func140, Tryz.ntmps140
    cases b
    all_goals go_wp2_with ((with_reducible refine skip_g rfl ?_ ?_); rfl; intro _)
    all_goals (go_ret; exact ⟨ret_b (by rw [E.out]; simp), rfl⟩)
  have e1 := eqf h1
  have e2 := eqf h2
  have e3 := eqf h3
  have E := Hi (show fitsB m n = true by unfold fitsB; rw [if_neg h1, if_neg h2, if_neg h3])
  clear h1 h2 h3
  go_enter Tryz.func140, Tryz.ntmps140
  go_wp2
  go_ret
  exact ⟨ret_b E.out.symm, rfl⟩
theorem most_any (n : Int) (w : World) (h0 : 0 ≤ n) : Calls Tryz.prog 141 #[.int .i64 n] w fun e w' => e = .returned (.int .i64 (mostI n)) ∧ w' = w := by
  by_cases h : n ≤ 8
  · have E := Hi (show mostI n = 2 ^ n.toNat by unfold mostI; rw [if_pos h])
    have hp := pow_pos' n.toNat
    have hl := pow_le' (show n.toNat ≤ 8 by omega)
    have h8 : (2 : Int) ^ 8 = 256 := by decide
    rw [h8] at hl
    clear h8
    go_enter Tryz.func141, Tryz.ntmps141
    go_wp2
    go_ret
    exact ⟨ret_i (by rw [E.out]), rfl⟩
  · have E := Hi (show mostI n = 256 by unfold mostI; rw [if_neg h])
    go_enter Tryz.func141, Tryz.ntmps141
    go_wp2
    go_ret
    exact ⟨ret_i E.out.symm, rfl⟩
theorem u32_wraps (n : Int) (h₀ : 0 ≤ n) (h₁ : n < 2 ^ 32) : IntKind.u32.wrap n = n := by
  have : IntKind.u32.wrap n = n % 4294967296 := rfl
  rw [this]; omega
theorem or_low32 (i : Nat) (v y : Int) (h0 : 0 ≤ v) (h1 : v < 2 ^ i) (hy : 0 ≤ y) (h2 : v + y * 2 ^ i < 2 ^ 32) : bits .or .u32 v (y * 2 ^ i) = v + y * 2 ^ i := by
  have hp := pow_pos' i
  have hm := Int.mul_nonneg hy (Int.le_of_lt hp)
  exact bits_join_low .u32 32 (by decide) u32_wraps i v _ h0 h1 (by omega) hm (Int.mul_emod_left _ _) (by omega)
theorem lowK_round32 (s : ByteArray) (a k : Nat) (h : k ≤ 3) : bits .or .u32 (lowK s a k) (byN s (a + k) % 4294967296 * 2 ^ (8 * k) % 4294967296) = lowK s a (k + 1) := by
  have hb := byN_bd s (a + k)
  have hl := lowK_bd s a k
  have hl1 := lowK_bd s a (k + 1)
  have hp := pow32 k h
  have h0 : 0 ≤ byN s (a + k) * 2 ^ (8 * k) := Int.mul_nonneg hb.1 (by omega)
  have h1 : byN s (a + k) * 2 ^ (8 * k) ≤ 255 * 2 ^ (8 * k) := Int.mul_le_mul_of_nonneg_right (by omega) (by omega)
  have h32 : (2 : Int) ^ 32 = 4294967296 := by decide
  have h3 := pow_le' (show 8 * (k + 1) ≤ 32 by omega)
  have e : lowK s a (k + 1) = lowK s a k + byN s (a + k) * 2 ^ (8 * k) := rfl
  rw [Int.emod_eq_of_lt hb.1 (by omega), Int.emod_eq_of_lt h0 (by omega), or_low32 (8 * k) _ _ hl.1 hl.2 hb.1 (by omega)]
  rfl
set_option maxRecDepth 100000 in
theorem hlow_any (s : ByteArray) (a n : Nat) (w : World) (hn : n ≤ 4) (h : a + n ≤ s.size) (hs : s.size ≤ 9223372036854775807) : Calls Tryz.prog 134 #[.string s, .int .i64 a, .int .i64 n] w fun e w' => e = .returned (.int .i64 (lowK s a n)) ∧ w' = w := by
  go_enter Tryz.func134, Tryz.ntmps134
  go_wp2
  go_loop [7, 8, 10] (fun v j i => ∃ k : Nat, k ≤ n ∧ i = .int .i64 k ∧ v = .int .u32 (lowK s a k)) (fun _ _ i => n - (intOf i).toNat)
  case atStart => exact ⟨0, by omega, rfl, rfl⟩
  case round =>
    obtain ⟨k, hk, rfl, rfl⟩ := hrel
    by_cases hlt : k < n
    · have i3 : ((a : Int) + k).toNat = a + k := by omega
      have i4 : (0 : Int) ≤ (a : Int) + k := by omega
      have i5 : (a : Int) + k < s.size := by omega
      have i6 : a + k < s.size := by omega
      go_wp2
      go_round
      case rel => exact ⟨k + 1, by omega, by go_num, by rw [byN_get s (a + k) i6, lowK_round32 s a k (by omega)]⟩
      case measure => simp [intOf]; omega
    · have E := Hi (show lowK s a k = lowK s a n by rw [show k = n by omega])
      have hge : n ≤ k := by omega
      have hl := lowK_bd s a k
      have hp := pow_le' (show 8 * k ≤ 32 by omega)
      have h32 : (2 : Int) ^ 32 = 4294967296 := by decide
      have hb : lowK s a k < 4294967296 := by omega
      have hb0 := hl.1
      clear hl hp h32
      go_wp2
      go_ret
      exact ⟨ret_i E.out, rfl⟩
theorem signed_wrap32 (v : Int) (h0 : 0 ≤ v) (h1 : v < 4294967296) : wrap32 v = signed v := by
  unfold wrap32 signed; split <;> omega
set_option maxRecDepth 100000 in
theorem hlow32_any (s : ByteArray) (a n : Nat) (w : World) (hn : n = 4) (h : a + n ≤ s.size) (hs : s.size ≤ 9223372036854775807) : Calls Tryz.prog 137 #[.string s, .int .i64 a, .int .i64 n] w fun e w' => e = .returned (.int .i32 (signed (lowK s a 4))) ∧ w' = w := by
  have hn4 : n ≤ 4 := by omega
  subst hn
  go_enter Tryz.func137, Tryz.ntmps137
  go_wp2
  go_loop [7, 8, 10] (fun v j i => ∃ k : Nat, k ≤ 4 ∧ i = .int .i64 k ∧ v = .int .u32 (lowK s a k)) (fun _ _ i => 4 - (intOf i).toNat)
  case atStart => exact ⟨0, by omega, rfl, rfl⟩
  case round =>
    obtain ⟨k, hk, rfl, rfl⟩ := hrel
    by_cases hlt : k < 4
    · have i3 : ((a : Int) + k).toNat = a + k := by omega
      have i4 : (0 : Int) ≤ (a : Int) + k := by omega
      have i5 : (a : Int) + k < s.size := by omega
      have i6 : a + k < s.size := by omega
      go_wp2
      go_round
      case rel => exact ⟨k + 1, by omega, by go_num, by rw [byN_get s (a + k) i6, lowK_round32 s a k (by omega)]⟩
      case measure => simp [intOf]; omega
    · have E := Hi (show wrap32 (lowK s a k) = signed (lowK s a 4) by rw [show k = 4 by omega]; exact signed_wrap32 _ (by have := lowK_bd s a 4; omega) (by have := lowK_bd s a 4; omega))
      have hge : 4 ≤ k := by omega
      have hl := lowK_bd s a k
      have hp := pow_le' (show 8 * k ≤ 32 by omega)
      have h32 : (2 : Int) ^ 32 = 4294967296 := by decide
      have hb : lowK s a k < 4294967296 := by omega
      have hb0 := hl.1
      clear hl hp h32
      go_wp2
      go_ret
      trace_state
      exact ⟨by rw [E.out]; rfl, rfl⟩
abbrev Fnd := Bool × Int × Int
def fndC (r : Fnd) : List Value := [.bool r.1, .int .i64 r.2.1, .int .i64 r.2.2]
def fndL : List Fnd → List Value
  | [] => []
  | r :: t => fndC r ++ fndL t
theorem fndL_app (A B : List Fnd) : fndL (A ++ B) = fndL A ++ fndL B := by
  induction A with
  | nil => rfl
  | cons r t ih => simp only [List.cons_append, fndL, ih, List.append_assoc]
theorem fndL_get (L : List Fnd) (i j : Nat) (r : Fnd) (h : L[i]? = some r) (hj : j < 3) : (fndL L)[i * 3 + j]? = (fndC r)[j]? := by
  induction L generalizing i with
  | nil => simp at h
  | cons q t ih =>
    cases i with
    | zero => simp at h; subst h; rw [Nat.zero_mul, Nat.zero_add, fndL, List.getElem?_append_left (by simp only [fndC, List.length_cons, List.length_nil]; omega)]
    | succ i => rw [show (i + 1) * 3 + j = 3 + (i * 3 + j) by omega, fndL, List.getElem?_append_right (by simp only [fndC, List.length_cons, List.length_nil]; omega)]
                rw [show (3 + (i * 3 + j) - (fndC q).length) = i * 3 + j by simp [fndC]]
                exact ih i (by simpa using h)
def firstW : List Fnd → Fnd × Bool
  | [] => ((false, 0, 0), false)
  | r :: t => if r.1 = true then (r, true) else firstW t
def FirstPost (w : World) (R : Fnd × Bool) (e : Ending) (w' : World) : Prop := e = .returned (.tuple #[.agg (List.toArray (fndC R.1)), .bool R.2]) ∧ Below w.heap.size w w'
set_option maxRecDepth 100000 in
set_option maxHeartbeats 4000000 in
theorem first_any (L : List Fnd) (n B cap : Nat) (w : World) (hn : n = L.length) (h99 : n ≤ 100) (hB : B < w.heap.size) (hR : w.rangeAt B 0 (fndL L)) : Calls Tryz.prog 65 #[.slice (some ⟨B, 0, none⟩) n cap] w (FirstPost w (firstW L)) := by
  unfold FirstPost
  have HR := Hi hR
  have HN := Hi hn
  have O2 := Hi (obj1_new w #[.bool false, .int .i64 0, .int .i64 0] 134)
  have BL := Hi ((Below.refl w.heap.size w).alloc (Nat.le_refl _) (.cells #[.bool false, .int .i64 0, .int .i64 0] 134))
  obtain ⟨RS, hRS⟩ : ∃ r, firstW L = r := ⟨_, rfl⟩
  have HRS := Hi hRS
  rw [hRS]
  clear hR hRS hn
  go_enter Tryz.func65, Tryz.ntmps65
  go_upto_region 1 with (fail)
  generalize World.alloc _ _ = w1 at O2 BL ⊢
  have hz1 : w.heap.size < w1.heap.size := O2.out.lt
  go_wp2_with fail
  go_loopw [5, 8] (fun q5 c wr => ∃ i : Nat, i ≤ n ∧ c = .int .i64 i ∧ firstW (L.drop i) = RS ∧ Obj1 wr w.heap.size #[.bool false, .int .i64 0, .int .i64 0] 134 ∧ Below w.heap.size w wr) (fun _ c _ => n - (intOf c).toNat)
  case atStart => exact ⟨0, by omega, rfl, HRS.out, O2.out, BL.out⟩
  case round =>
    obtain ⟨i, hi, rfl, hf, hO, hb⟩ := hrel
    have O2 := Hi hO
    have BL := Hi hb
    have hzr : w.heap.size < wr.heap.size := hO.lt
    clear hO hb
    have f0 : wr.frozen? ⟨w.heap.size, 0, none⟩ = false := O2.out.frozen 0
    have f1 : wr.frozen? ⟨w.heap.size, 1, none⟩ = false := O2.out.frozen 1
    have f2 : wr.frozen? ⟨w.heap.size, 2, none⟩ = false := O2.out.frozen 2
    have k0 : wr.cell? ⟨w.heap.size, 0, none⟩ = some (.bool false) := (O2.out.cell 0).trans rfl
    have k1 : wr.cell? ⟨w.heap.size, 1, none⟩ = some (.int .i64 0) := (O2.out.cell 1).trans rfl
    have k2 : wr.cell? ⟨w.heap.size, 2, none⟩ = some (.int .i64 0) := (O2.out.cell 2).trans rfl
    by_cases hlt : i < n
    rotate_left
    · have hge : n ≤ i := by omega
      have hRS : RS = ((false, 0, 0), false) := by rw [← hf, List.drop_of_length_le (by rw [← HN.out]; exact hge)]; rfl
      have HRS := Hi hRS
      clear hf hRS
      go_wp2_with (refine store_o rfl 134 3 _ _ rfl w.heap.size [.bool false, .int .i64 0, .int .i64 0] rfl rfl (by kernel_rfl) (by kernel_rfl) (by kernel_rfl) O2.out (by first | rfl | simp) ?_; intro ws hst hO; have O2 := Hi hO; have BL := Hi (hst.below BL.out (by omega)); clear hst hO)
      refine bodyPost_ret (v := .tuple #[.agg (List.toArray [.bool false, .int .i64 0, .int .i64 0]), .bool false]) ?_ rfl ⟨by rw [HRS.out]; rfl, BL.out⟩
      exact results_c1 Tryz.results65 _ _ _ [.bool false, .int .i64 0, .int .i64 0] _ rfl O2.out.range0 Tryz.underlying134 rfl (by kernel_rfl)
    · have hlt2 : i < L.length := by rw [← HN.out]; exact hlt
      obtain ⟨⟨wr0, kd, at0⟩, hrow⟩ : ∃ r, L[i] = r := ⟨_, rfl⟩
      have hr : L[i]? = some (wr0, kd, at0) := by rw [List.getElem?_eq_getElem hlt2, hrow]
      have hd : L.drop i = (wr0, kd, at0) :: L.drop (i + 1) := by rw [List.drop_eq_getElem_cons hlt2, hrow]
      rw [hd, firstW] at hf
      have g0 := fndL_get L i 0 _ hr (by omega)
      have g1 := fndL_get L i 1 _ hr (by omega)
      have g2 := fndL_get L i 2 _ hr (by omega)
      have hRr := range_below HR.out BL.out hB
      have c0 : wr.cell? ⟨B, i * 3, none⟩ = some (.bool wr0) := by have := hRr (i * 3) _ (by rw [← Nat.add_zero (i * 3)]; exact g0); rwa [Nat.zero_add] at this
      have c1 : wr.cell? ⟨B, i * 3 + 1, none⟩ = some (.int .i64 kd) := by have := hRr (i * 3 + 1) _ g1; rwa [Nat.zero_add] at this
      have c2 : wr.cell? ⟨B, i * 3 + 2, none⟩ = some (.int .i64 at0) := by have := hRr (i * 3 + 2) _ g2; rwa [Nat.zero_add] at this
      clear hrow hr hd g0 g1 g2 hRr
      cases wr0
      · have HF := Hi (show firstW (L.drop (i + 1)) = RS from hf)
        clear hf
        go_wp2_with fail
        go_roundw
        case rel => exact ⟨i + 1, by omega, by go_num, HF.out, O2.out.alloc _, BL.out.alloc BL.out.size _⟩
        case measure => simp [intOf]; omega
      · have HF := Hi (show ((true, kd, at0), true) = RS from hf)
        clear hf
        have O2 := Hi (O2.out.alloc (.cells #[.bool true, .int .i64 kd, .int .i64 at0] 134))
        have BL := Hi (BL.out.alloc BL.out.size (.cells #[.bool true, .int .i64 kd, .int .i64 at0] 134))
        go_wp2_with (refine store_o rfl 134 3 _ _ rfl w.heap.size [.bool true, .int .i64 kd, .int .i64 at0] rfl rfl (by kernel_rfl) (by kernel_rfl) (by kernel_rfl) O2.out (by first | rfl | simp) ?_; intro ws hst hO; have O2 := Hi hO; have BL := Hi (hst.below BL.out (by omega)); clear hst hO)
        refine bodyPost_ret (v := .tuple #[.agg (List.toArray [.bool true, .int .i64 kd, .int .i64 at0]), .bool true]) ?_ rfl ⟨by rw [← HF.out]; rfl, BL.out⟩
        exact results_c1 Tryz.results65 _ _ _ [.bool true, .int .i64 kd, .int .i64 at0] _ rfl O2.out.range0 Tryz.underlying134 rfl (by kernel_rfl)
def sidesF (W H a b : Int) : List Fnd := [(decide (W ≤ 0), 2, a), (decide (W > 16384), 3, a), (H == 0, 2, b), (decide (H > 16384) || decide (H < -16384), 3, b)]
set_option maxRecDepth 100000 in
set_option maxHeartbeats 4000000 in
theorem sides_any (W H a b : Int) (w : World) : Calls Tryz.prog 138 #[.int .i64 W, .int .i64 H, .int .i64 a, .int .i64 b] w fun e w' => e = .returned (.slice (some ⟨w.heap.size, 0, none⟩) 4 4) ∧ Obj1 w' w.heap.size (List.toArray (fndL (sidesF W H a b))) 134 ∧ Below w.heap.size w w' := by
  have O2 := Hi (obj1_new w (List.toArray (fndL (sidesF W H a b))) 134)
  have BL := Hi ((Below.refl w.heap.size w).alloc (Nat.le_refl _) (.cells (List.toArray (fndL (sidesF W H a b))) 134))
  obtain ⟨b1, hb1⟩ : ∃ x, decide (W ≤ 0) = x := ⟨_, rfl⟩
  obtain ⟨b2, hb2⟩ : ∃ x, decide (W > 16384) = x := ⟨_, rfl⟩
  obtain ⟨b3, hb3⟩ : ∃ x, (H == 0) = x := ⟨_, rfl⟩
  obtain ⟨b4, hb4⟩ : ∃ x, decide (H > 16384) = x := ⟨_, rfl⟩
  obtain ⟨b5, hb5⟩ : ∃ x, decide (H < -16384) = x := ⟨_, rfl⟩
  have E := Hi (show fndL (sidesF W H a b) = [.bool b1, .int .i64 2, .int .i64 a, .bool b2, .int .i64 3, .int .i64 a, .bool b3, .int .i64 2, .int .i64 b, .bool (b4 || b5), .int .i64 3, .int .i64 b] by unfold sidesF; rw [hb1, hb2, hb3, hb4, hb5]; rfl)
  rw [E.out] at O2 BL ⊢
  go_enter Tryz.func138, Tryz.ntmps138
  cases b4
  all_goals go_wp2_with ((with_reducible refine skip_g rfl ?_ ?_); rfl; intro _)
  all_goals (go_ret; exact ⟨rfl, O2.out, BL.out⟩)
end Go.Proofs.YtlfbaggcfaenlaaGreat
namespace Go
section
variable {P : Program} {ops : Array Oper} {Q : Exit → Act → World → Prop} {md : Region.Mode} {S : World → Prop}
def CallsIf (P : Program) (ops : Array Oper) (S : World → Prop) (o : Oper) (v : Value) (a : Act) : Prop :=
  Region.wanted o (yielded ops a.tmps) = true ∧ ∀ w, S w → ∃ f args, (execOp a.eval o).run P w = .ok (.enter f args) w ∧ Calls P f args w (fun e w' => e = .returned v ∧ w' = w)
theorem CallsIf.wpOp {i : Nat} {o : Oper} {v : Value} {a : Act} (hi : ops[i]? = some o) (hy : CallsIf P ops S o v a)
    {K : Act → World → Prop} {w : World} (hS : S w) (h : K (a.put o.dst v) w) : wpOp P ops Q i K a w := by
  obtain ⟨hw, hv⟩ := hy
  obtain ⟨f, args, hr, hc⟩ := hv w hS
  unfold Go.wpOp
  simp only [hi, hw, if_true, Oper.wp, hr, Oper.upon]
  refine .inl (Calls.mono hc ?_)
  rintro e w' ⟨rfl, rfl⟩
  exact h
theorem CallsIf.of_same {o : Oper} {v : Value} {a a' : Act} (hy : CallsIf P ops S o v a) (he : execOp a'.eval o = execOp a.eval o)
    (hw : Region.wanted o (yielded ops a'.tmps) = Region.wanted o (yielded ops a.tmps)) : CallsIf P ops S o v a' := by
  unfold CallsIf at *
  rw [he, hw]
  exact hy
theorem wpOp_putC {j : Nat} {oi oj : Oper} {v : Value} (hj : ops[j]? = some oj) (hap : oi.apart ops oj = true)
    (hsi : ∀ cs b, oi.op ≠ .select cs b) (hsj : ∀ cs b, oj.op ≠ .select cs b)
    (hQ : ∀ c a w, Q (.panic c) (a.put oi.dst v) w → Q (.panic c) a w) {K : Act → World → Prop} {a : Act} {w : World}
    (hy : CallsIf P ops S oi v a) (h : wpOp P ops Q j K (a.put oi.dst v) w) :
    wpOp P ops Q j (fun a' w' => CallsIf P ops S oi v a' ∧ K (a'.put oi.dst v) w') a w := by
  obtain ⟨h1, h2, h3⟩ := Oper.apart_spec hap
  have keep : ∀ (a : Act), CallsIf P ops S oi v a → ∀ u, CallsIf P ops S oi v (a.put oj.dst u) := fun a hy u =>
    hy.of_same (execOp_put oi hsi a oj.dst u h3) (wanted_put oi a oj.dst u h3)
  have keepD : ∀ d, CallsIf P ops S oi v { a with defers := d :: a.defers } := fun d => hy.of_same rfl rfl
  unfold wpOp at *
  simp only [hj] at *
  rw [wanted_put oj a oi.dst v h1] at h
  split
  · rename_i hw
    simp only [hw, if_true] at h
    rcases h with h | ⟨hasks, hlets⟩
    case inr => exact .inr ⟨by unfold Oper.asks at *; rw [execOp_put oj hsj a oi.dst v h1] at hasks; exact hasks, hlets⟩
    refine .inl ?_
    unfold Oper.wp at *
    rw [execOp_put oj hsj a oi.dst v h1] at h
    generalize (execOp a.eval oj).run P w = r at *
    cases r with
    | ok n w' =>
      cases n <;> simp only [Oper.upon] at h ⊢
      case value u => exact ⟨keep a hy u, by rw [← Act.put_comm a v u h2]; exact h⟩
      case skip => exact ⟨keep a hy _, by rw [← Act.put_comm a v undef h2]; exact h⟩
      case defer d =>
        refine ⟨keep _ (keepD d) _, ?_⟩
        rw [← Act.put_comm _ v undef h2, ← Act.put_defers]
        exact h
      case enter f args =>
        refine Calls.mono h fun e w'' he => ?_
        cases e with
        | returned u => exact ⟨keep a hy u, by rw [← Act.put_comm a v u h2]; exact he⟩
        | panicked c => exact hQ _ _ _ he
        | outgrown => exact he
      case row row args => exact Rows.mono h fun u w'' he => ⟨keep a hy u, by rw [← Act.put_comm a v u h2]; exact he⟩
    | halt x w' =>
      cases x <;> simp only [Oper.upon] at h ⊢
      case panic u => exact hQ _ _ _ h
  · rename_i hw
    simp only [hw] at h
    exact ⟨keep a hy _, by rw [← Act.put_comm a v undef h2]; exact h⟩
theorem wpAnyH_firstC {i : Nat} {oi : Oper} {v : Value} (hi : ops[i]? = some oi) (hsel : ∀ (j : Nat) (o : Oper) cs b, ops[j]? = some o → o.op ≠ .select cs b)
    (hQ : ∀ c a w, Q (.panic c) (a.put oi.dst v) w → Q (.panic c) a w) :
    ∀ (fuel : Nat) (listed : Array Bool) (a : Act) (w : World),
      (∀ j oj, ops[j]? = some oj → j ≠ i → listed.getD j true = false → (∀ e ∈ oj.after, Region.binds md e = true → e.on ≠ i) → oi.apart ops oj = true) →
      i ∈ Region.ready md ops listed → CallsIf P ops S oi v a → S w →
      wpAnyH P md ops Q S fuel (listed.setIfInBounds i true) (a.put oi.dst v) w → wpAnyH P md ops Q S (fuel + 1) listed a w := by
  intro fuel
  induction fuel with
  | zero =>
    intro listed a w _ hr hy hS H
    refine ⟨fun h => (by rw [h] at hr; cases hr), fun j hj => ?_⟩
    by_cases hji : j = i
    · subst hji; exact hy.wpOp hi hS ⟨hS, H⟩
    · have := ready_mono hj hji
      rw [H.1] at this
      cases this
  | succ fuel ih =>
    intro listed a w hfree hr hy hS H
    refine ⟨fun h => (by rw [h] at hr; cases hr), fun j hj => ?_⟩
    by_cases hji : j = i
    · subst hji; exact hy.wpOp hi hS ⟨hS, H⟩
    · have h1 := H.2 j (ready_mono hj hji)
      obtain ⟨hjun, oj, hoj, hall⟩ := mem_ready.1 hj
      have hnot : ∀ e ∈ oj.after, Region.binds md e = true → e.on ≠ i := fun e he hb heq => by
        have h1 := hall e he hb
        have h0 := (mem_ready.1 hr).1
        rw [heq] at h1
        rcases Nat.lt_or_ge i listed.size with h' | h'
        · simp [h'] at h0 h1; rw [h0] at h1; cases h1
        · simp [Array.getElem?_eq_none h'] at h1
      have h2 := wpOp_putC hoj (hfree j oj hoj hji hjun hnot) (fun cs b => hsel i oi cs b hi) (fun cs b => hsel j oj cs b hoj) hQ hy h1
      have hfree' : ∀ k ok, ops[k]? = some ok → k ≠ i → (listed.setIfInBounds j true).getD k true = false →
          (∀ e ∈ ok.after, Region.binds md e = true → e.on ≠ i) → oi.apart ops ok = true := fun k ok hk hki hun hno => by
        refine hfree k ok hk hki ?_ hno
        by_cases hjk : j = k
        · subst hjk; exact hjun
        · rw [getD_set_ne true hjk] at hun; exact hun
      refine wpOp_mono (fun a' w' h3 => ⟨h3.2.1, ih (listed.setIfInBounds j true) a' w' hfree' (ready_mono hr (Ne.symm hji)) h3.1 h3.2.1 ?_⟩) h2
      rw [Array.setIfInBounds_comm _ _ hji]
      exact h3.2.2
end
end Go
namespace Go
section
variable {P : Program} {ops : Array Oper} {Q : Exit → Act → World → Prop} {md : Region.Mode} {S : World → Prop}
theorem wpAnyH_call2 {i : Nat} {oi : Oper} {v : Value} {fuel : Nat} {listed : Array Bool} {a : Act} {w : World} (hi : ops[i]? = some oi)
    (hs : Region.noSelect ops = true) (hf : Region.free md ops listed i = true) (hr : (Region.ready md ops listed).contains i = true)
    (hQ : ∀ c a w, Q (.panic c) (a.put oi.dst v) w → Q (.panic c) a w) (hy : YieldsIf P ops S oi v a ∨ CallsIf P ops S oi v a) (hS : S w)
    (h : wpAnyH P md ops Q S fuel (listed.setIfInBounds i true) (a.put oi.dst v) w) : wpAnyH P md ops Q S (fuel + 1) listed a w := by
  rcases hy with hy | hy
  · exact wpAnyH_take hi hs hf hr hQ hy hS h
  · exact wpAnyH_firstC hi (Region.noSelect_spec hs) hQ fuel listed a w (Region.free_spec hi hf) (by simpa using hr) hy hS h
end
end Go

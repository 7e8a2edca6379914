/- Small facts that every text of this seat leans on: bits of machine integers, worlds behind calls. No program in sight. -/
import Derived.WalkKit
import Derived.WalkSpells
import Derived.WalkLawsBesides
import Derived.Handy
import Derived.Lib.Hide
import Derived.Deep.QuietTactic
import Derived.BigQuiet
import Derived.Deep.MidRow
namespace Go.Proofs.Ytlhcjnjajkfahaa
open Go.RowKit
set_option linter.unusedVariables false

theorem bcell {W w1 : World} {B : Nat} (hb : Below B W w1) : (∀ b o, b < B → w1.cell? ⟨b, o, none⟩ = W.cell? ⟨b, o, none⟩) ∧ (∀ b o, b < B → w1.frozen? ⟨b, o, none⟩ = W.frozen? ⟨b, o, none⟩) :=
  ⟨fun b o h => hb.cell (p := ⟨b, o, none⟩) h, fun b o h => hb.frozen (p := ⟨b, o, none⟩) h⟩

theorem bthen {B n : Nat} {a b c : World} (hb : Below n b c) (h : Below B a b) (hn : B ≤ n) : Below B a c := h.trans (hb.mono hn)

theorem bsz {W w1 : World} {B : Nat} (hb : Below B W w1) : W.heap.size ≤ w1.heap.size := hb.size
/-- What a region that calls keeps of the world in which it began: all blocks below K. -/
abbrev KP (K : Nat) (W w' : World) : Prop := Below K W w' ∧ (∀ b o, b < K → w'.cell? ⟨b, o, none⟩ = W.cell? ⟨b, o, none⟩) ∧ (∀ b o, b < K → w'.frozen? ⟨b, o, none⟩ = W.frozen? ⟨b, o, none⟩) ∧ K ≤ w'.heap.size
theorem kp_of {K : Nat} {W w' : World} (hb : Below K W w') (hk : K ≤ W.heap.size) : KP K W w' := ⟨hb, (bcell hb).1, (bcell hb).2, Nat.le_trans hk hb.size⟩
theorem kp_refl {K : Nat} {W : World} (hk : K ≤ W.heap.size) : KP K W W := kp_of (Below.refl _ _) hk
theorem kp_drew {K : Nat} {W w : World} (h : KP K W w) : KP K W w.drew := ⟨h.1.drew, h.2.1, h.2.2.1, h.2.2.2⟩
theorem kp_drewN {K : Nat} {W w : World} (h : KP K W w) (n : Nat) : KP K W (w.drewN n) := by
  induction n with
  | zero => exact h
  | succ n ih => exact kp_drew ih
theorem kp_next {K : Nat} {W w1 w2 : World} (h : KP K W w1) (hb : Below w1.heap.size w1 w2) : KP K W w2 :=
  have hb' := h.1.trans (hb.mono h.2.2.2); ⟨hb', (bcell hb').1, (bcell hb').2, Nat.le_trans h.2.2.2 hb.size⟩

/-- A block of the call's own that a region stores into: n cells that can be written, whatever they hold. -/
def rd (w : World) (r o : Nat) : Value := (w.cell? ⟨r, o, none⟩).getD undef
abbrev Slot (r n : Nat) (w' : World) : Prop := (∀ o, w'.frozen? ⟨r, o, none⟩ = false) ∧ (∀ o, o < n → w'.cell? ⟨r, o, none⟩ = some (rd w' r o)) ∧ r < w'.heap.size
theorem slot_of {r n : Nat} {w : World} (h : ∀ o, w.frozen? ⟨r, o, none⟩ = false) (hc : ∀ o, o < n → ∃ v, w.cell? ⟨r, o, none⟩ = some v) (hr : r < w.heap.size) : Slot r n w :=
  ⟨h, fun o ho => by obtain ⟨v, hv⟩ := hc o ho; unfold rd; rw [hv]; rfl, hr⟩
theorem slot_alloc (w : World) (cs : Array Value) (t : TypeId) : Slot w.heap.size cs.size (w.alloc (.cells cs t)) :=
  slot_of (fun o => by simp [go_sem]) (fun o ho => ⟨cs[o], by simp [go_sem, ho]⟩) (by simp)
theorem slot_alloc' {w : World} {cs : Array Value} {t : TypeId} {r n : Nat} (hr : r = w.heap.size) (hn : n = cs.size) : Slot r n (w.alloc (.cells cs t)) := by subst hr hn; exact slot_alloc _ _ _
theorem slot_drew {r n : Nat} {w : World} (h : Slot r n w) : Slot r n w.drew := h
theorem slot_next {r n B : Nat} {w w' : World} (h : Slot r n w) (hb : Below B w w') (hr : r < B) : Slot r n w' :=
  slot_of (fun o => by rw [(bcell hb).2 _ _ hr]; exact h.1 o) (fun o ho => ⟨_, ((bcell hb).1 _ _ hr).trans (h.2.1 o ho)⟩) (Nat.lt_of_lt_of_le h.2.2 hb.size)
theorem slot_set {r n : Nat} {w : World} (h : Slot r n w) (a : Addr) (u : Value) : Slot r n (w.setCell a u) :=
  slot_of (fun o => by rw [World.frozen?_setCell]; exact h.1 o) (fun o ho => cell?_setCell_some (h.2.1 o ho)) (by simpa [World.setCell] using h.2.2)
/-- Both. -/
abbrev KS (K : Nat) (W : World) (r n : Nat) (w' : World) : Prop := KP K W w' ∧ Slot r n w'
theorem ks_drew {K r n : Nat} {W w : World} (h : KS K W r n w) : KS K W r n w.drew := ⟨kp_drew h.1, slot_drew h.2⟩
theorem ks_next {K r n : Nat} {W w1 w2 : World} (h : KS K W r n w1) (hb : Below w1.heap.size w1 w2) : KS K W r n w2 := ⟨kp_next h.1 hb, slot_next h.2 hb h.2.2.2⟩
theorem kp_set {K : Nat} {W w : World} (h : KP K W w) (a : Addr) (u : Value) (ha : K ≤ a.block) : KP K W (w.setCell a u) :=
  have hb := h.1.setCell ha u; ⟨hb, (bcell hb).1, (bcell hb).2, by simpa [World.setCell] using h.2.2.2⟩
theorem ks_set {K r n : Nat} {W w : World} (h : KS K W r n w) (a : Addr) (u : Value) (ha : K ≤ a.block) : KS K W r n (w.setCell a u) := ⟨kp_set h.1 a u ha, slot_set h.2 a u⟩

theorem cell?_unset {w : World} {a q : Addr} {u v : Value} (h : (w.setCell a u).cell? q = some v) : ∃ x, w.cell? q = some x := by
  by_cases e : a = q
  · subst e
    simp only [World.cell?, World.setCell, Array.getElem?_modify, ↓reduceIte] at h ⊢
    cases hb : w.heap[a.block]? with
    | none => rw [hb] at h; simp at h
    | some o => cases o with
      | cells c e f =>
        rw [hb] at h
        by_cases hs : a.spot.isSome = true
        · simp [hs] at h
        · simp [hs] at h ⊢
          have : a.off < c.size := by
            have := h
            rcases Nat.lt_or_ge a.off c.size with h' | h'
            · exact h'
            · simp [Array.setIfInBounds, Nat.not_lt.2 h'] at this
          exact ⟨_, Array.getElem?_eq_getElem this⟩
      | _ => rw [hb] at h; simp at h
  · rw [World.cell?_setCell_other w a q u e] at h; exact ⟨v, h⟩
theorem slot_unset {r n : Nat} {w : World} {a : Addr} {u : Value} (h : Slot r n (w.setCell a u)) : Slot r n w :=
  slot_of (fun o => by have := h.1 o; rwa [World.frozen?_setCell] at this) (fun o ho => cell?_unset (h.2.1 o ho)) (by simpa [World.setCell] using h.2.2)
theorem slot_get {r n : Nat} {w : World} {i : Nat} {u : Value} (h : Slot r n (w.setCell ⟨r, i, none⟩ u)) (hi : i < n) : (w.setCell ⟨r, i, none⟩ u).cell? ⟨r, i, none⟩ = some u :=
  World.cell?_setCell_same _ _ _ ((slot_unset h).2.1 i hi)
theorem slot_ne {r i j : Nat} {w : World} {u : Value} (h : i ≠ j) : (w.setCell ⟨r, i, none⟩ u).cell? ⟨r, j, none⟩ = w.cell? ⟨r, j, none⟩ :=
  World.cell?_setCell_other _ _ _ _ (fun e => h (congrArg Addr.off e))
theorem slot2 {r : Nat} {w : World} {a b : Value} (h : Slot r 2 w) : ((w.setCell ⟨r, 0, none⟩ a).setCell ⟨r, 1, none⟩ b).cell? ⟨r, 0, none⟩ = some a ∧ ((w.setCell ⟨r, 0, none⟩ a).setCell ⟨r, 1, none⟩ b).cell? ⟨r, 1, none⟩ = some b :=
  have h1 := slot_set h ⟨r, 0, none⟩ a; have h2 := slot_set h1 ⟨r, 1, none⟩ b
  ⟨(slot_ne (by decide)).trans (slot_get h1 (by decide)), slot_get h2 (by decide)⟩
theorem slot4 {r : Nat} {w : World} {a b c d : Value} (h : Slot r 4 ((((w.setCell ⟨r, 0, none⟩ a).setCell ⟨r, 1, none⟩ b).setCell ⟨r, 2, none⟩ c).setCell ⟨r, 3, none⟩ d)) :
    ((((w.setCell ⟨r, 0, none⟩ a).setCell ⟨r, 1, none⟩ b).setCell ⟨r, 2, none⟩ c).setCell ⟨r, 3, none⟩ d).cell? ⟨r, 0, none⟩ = some a ∧
    ((((w.setCell ⟨r, 0, none⟩ a).setCell ⟨r, 1, none⟩ b).setCell ⟨r, 2, none⟩ c).setCell ⟨r, 3, none⟩ d).cell? ⟨r, 1, none⟩ = some b ∧
    ((((w.setCell ⟨r, 0, none⟩ a).setCell ⟨r, 1, none⟩ b).setCell ⟨r, 2, none⟩ c).setCell ⟨r, 3, none⟩ d).cell? ⟨r, 2, none⟩ = some c ∧
    ((((w.setCell ⟨r, 0, none⟩ a).setCell ⟨r, 1, none⟩ b).setCell ⟨r, 2, none⟩ c).setCell ⟨r, 3, none⟩ d).cell? ⟨r, 3, none⟩ = some d := by
  have h2 := slot_unset h; have h1 := slot_unset h2; have h0 := slot_unset h1
  refine ⟨?_, ?_, ?_, slot_get h (by decide)⟩
  · rw [slot_ne (by decide), slot_ne (by decide), slot_ne (by decide)]; exact slot_get h0 (by decide)
  · rw [slot_ne (by decide), slot_ne (by decide)]; exact slot_get h1 (by decide)
  · rw [slot_ne (by decide)]; exact slot_get h2 (by decide)

theorem slot_there {r n : Nat} {w : World} (h : Slot r n w) : w.there r 0 n := fun j hj => ⟨by rw [Nat.zero_add, h.2.1 j hj]; rfl, h.1 _⟩
theorem below_setCells {B b : Nat} {a : World} (hb : B ≤ b) : ∀ (vs : List Value) (o : Nat) (w : World), Below B a w → Below B a (w.setCells b o vs)
  | [], _, _, h => h
  | v :: r, o, w, h => below_setCells hb r (o + 1) _ (h.setCell hb v)

theorem store_mid {P : Program} {ops : Array Oper} {rest : List Oper} {op : Oper} {a : Act} {w : World} {Q : Exit → Act → World → Prop} (hgd : op.guard = none) (ty : TypeId) (x y : Operand) (ho : op.op = .store ty x y)
    (b o : Nat) (cells : Array Value) (hx : a.eval x = .pointer (some ⟨b, o, none⟩)) (hy : a.eval y = .agg cells)
    (ht : w.there b o cells.size) (hi : (P.info? ty).map (·.size) = some cells.size) (h1 : cells.toList.all (·.oneCell') = true)
    (h : wpList P ops Q rest (a.put op.dst undef) (w.setCells b o cells.toList)) : wpList P ops Q (op :: rest) a w :=
  wpList_store_mid hgd ty x y ho b o cells hx hy ht hi (by rw [← Array.all_toList]; exact h1) h

theorem ret_int {k : IntKind} {a b : Int} (h : a = b) : Ending.returned (.int k a) = .returned (.int k b) := by rw [h]
theorem ret_bool {a b : Bool} (h : a = b) : Ending.returned (.bool a) = .returned (.bool b) := by rw [h]

theorem bdrew {B : Nat} {a w : World} (h : Below B a w) (n : Nat) : Below B a (w.drewN n) := by
  induction n generalizing w with
  | zero => exact h
  | succ n ih => exact (ih h).drew

/-! ### bits of an int -/
theorem i64_wrap_id (n : Int) (h₀ : 0 ≤ n) (h₁ : n < 2 ^ 63) : IntKind.i64.wrap n = n := by rw [IntKind.wrap_i64]; omega
theorem i64_andN (a b : Nat) (ha : a < 2 ^ 63) (hb : b < 2 ^ 63) : bits .and .i64 (a : Int) (b : Int) = ((a &&& b : Nat) : Int) :=
  (bits_nat .i64 63 (by decide) i64_wrap_id a b ha hb).1
theorem i64_orN (a b : Nat) (ha : a < 2 ^ 63) (hb : b < 2 ^ 63) : bits .or .i64 (a : Int) (b : Int) = ((a ||| b : Nat) : Int) :=
  (bits_nat .i64 63 (by decide) i64_wrap_id a b ha hb).2
theorem ofInt64_toNat (x : Int) : (BitVec.ofInt 64 x).toNat = (x % 18446744073709551616).toNat := by
  simp [BitVec.toNat_ofInt]
theorem emod_pow_pow (x : Int) (b : Nat) (hb : b ≤ 64) : x % 18446744073709551616 % 2 ^ b = x % 2 ^ b := by
  apply Int.emod_emod_of_dvd
  have : (18446744073709551616 : Int) = 2 ^ b * 2 ^ (64 - b) := by rw [← Int.pow_add, show b + (64 - b) = 64 by omega]; rfl
  rw [this]; exact Int.dvd_mul_right _ _
theorem i64_and_mask (x : Int) (b : Nat) (hb : b ≤ 62) : bits .and .i64 x (2 ^ b - 1) = x % 2 ^ b := by
  have hp : (0 : Int) < 2 ^ b := Int.pow_pos (by decide)
  have h0 := Int.emod_nonneg x (Int.ne_of_gt hp)
  have h1 := Int.emod_lt_of_pos x hp
  have hlt : (2 : Int) ^ b ≤ 2 ^ 62 := by
    have : (2 : Nat) ^ b ≤ 2 ^ 62 := Nat.pow_le_pow_right (by decide) hb
    exact_mod_cast this
  have hpn : 0 < 2 ^ b := Nat.two_pow_pos b
  have hltn : (2 : Nat) ^ b ≤ 2 ^ 62 := Nat.pow_le_pow_right (by decide) hb
  have hc : ((2 : Int) ^ b - 1) = ((2 ^ b - 1 : Nat) : Int) := by rw [Int.natCast_sub hpn]; simp
  have hm : (BitVec.ofInt 64 ((2 : Int) ^ b - 1)).toNat = 2 ^ b - 1 := by
    rw [hc, BitVec.ofInt_natCast, BitVec.toNat_ofNat]; exact Nat.mod_eq_of_lt (by omega)
  have e : (BitVec.ofInt 64 x &&& BitVec.ofInt 64 ((2 : Int) ^ b - 1)).toNat = (x % 2 ^ b).toNat := by
    rw [BitVec.toNat_and, hm, Nat.and_two_pow_sub_one_eq_mod, ofInt64_toNat]
    have h2 := Int.emod_nonneg x (by decide : (18446744073709551616 : Int) ≠ 0)
    have : (((x % 18446744073709551616).toNat % 2 ^ b : Nat) : Int) = ((x % 2 ^ b).toNat : Int) := by
      rw [Int.natCast_emod, Int.toNat_of_nonneg h2, Int.toNat_of_nonneg h0, ← emod_pow_pow x b (by omega), Int.natCast_pow]; rfl
    exact Int.ofNat_inj.mp this
  show IntKind.i64.wrap ((BitVec.ofInt 64 x &&& BitVec.ofInt 64 ((2 : Int) ^ b - 1)).toNat : Int) = _
  rw [e, Int.toNat_of_nonneg h0]
  exact i64_wrap_id _ h0 (by omega)
theorem i64_and_one (x : Int) : bits .and .i64 x 1 = x % 2 := i64_and_mask x 1 (by decide)
/-- Bit i of an int. -/
def bitB (w : Int) (i : Nat) : Bool := decide (w / 2 ^ i % 2 = 1)
theorem pow_pos' (i : Nat) : (0 : Int) < 2 ^ i := Int.pow_pos (by decide)
theorem pow_succ' (i : Nat) : (2 : Int) ^ (i + 1) = 2 * 2 ^ i := by rw [Int.pow_succ, Int.mul_comm]
theorem pow_le' {i j : Nat} (h : i ≤ j) : (2 : Int) ^ i ≤ 2 ^ j := by
  have : (2 : Nat) ^ i ≤ 2 ^ j := Nat.pow_le_pow_right (by decide) h
  exact_mod_cast this
theorem div_pow_succ (w : Int) (i : Nat) : w / 2 ^ (i + 1) = w / 2 ^ i / 2 := by
  rw [Int.pow_succ, Int.mul_comm, Int.mul_comm 2, ← Int.ediv_ediv_of_nonneg (Int.le_of_lt (pow_pos' i))]
end Go.Proofs.Ytlhcjnjajkfahaa

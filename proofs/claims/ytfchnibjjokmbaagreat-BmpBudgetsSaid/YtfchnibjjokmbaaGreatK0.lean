/- Parts. -/
import Derived.WalkKit
import Derived.WalkSpells
import Derived.WalkLawsBesides
import Derived.Handy
import Derived.Lib.Hide
import Derived.Deep.QuietTactic
import Derived.BigQuiet
import Derived.Deep.MidRow
import Derived.Deep.RegionHeld
import Derived.Test.YtfchnibjjokmbaaGreatProg
import Derived.Laws.LoneSync
import Derived.RegionCalls
import Derived.Defers
import Derived.StillTailTactics
set_option linter.all false
set_option maxRecDepth 100000
set_option maxHeartbeats 16000000
open Go.Value renaming int → J, pointer → Y
open Go.IntKind renaming i64 → I, u8 → U
namespace Go.Proofs.YtfchnibjjokmbaaGreat
theorem Hi {p : Prop} (h : p) : Go.RowKit.Hid p := h
open Go.RowKit
theorem zq1 {α : Type} (l : List α) (i : Nat) (a : α) : l.toArray.setIfInBounds i a = (l.set i a).toArray := List.setIfInBounds_toArray ..
theorem zq2 {α : Type} {a b : α} {l : List α} : (a :: l).set 0 b = b :: l := rfl
theorem zq3 {α : Type} {a b : α} {l : List α} {n : Nat} : (a :: l).set (n + 1) b = a :: l.set n b := rfl
theorem zq4 {α : Type} {l : List α} {i : Nat} (h : i < l.toArray.size) : l.toArray[i] = l[i]'(by simpa using h) := rfl
theorem zq5 {α : Type} {a : α} {l : List α} (h : 0 < (a :: l).length) : (a :: l)[0] = a := rfl
theorem zq6 {α : Type} {a : α} {l : List α} {i : Nat} (h : i + 1 < (a :: l).length) : (a :: l)[i + 1] = l[i]'(by simpa using h) := rfl

theorem bcell {W w1 : World} {B : Nat} (hb : Below B W w1) : (∀ b o, b < B → w1.cell? ⟨b, o, none⟩ = W.cell? ⟨b, o, none⟩) ∧ (∀ b o, b < B → w1.frozen? ⟨b, o, none⟩ = W.frozen? ⟨b, o, none⟩) :=
 ⟨fun b o h => hb.cell (p := ⟨b, o, none⟩) h, fun b o h => hb.frozen (p := ⟨b, o, none⟩) h⟩
theorem am {B n : Nat} {a b c : World} (hb : Below n b c) (h : Below B a b) (hn : B ≤ n) : Below B a c := h.trans (hb.mono hn)
abbrev KP (K : Nat) (W w' : World) : Prop := Below K W w' ∧ (∀ b o, b < K → w'.cell? ⟨b, o, none⟩ = W.cell? ⟨b, o, none⟩) ∧ (∀ b o, b < K → w'.frozen? ⟨b, o, none⟩ = W.frozen? ⟨b, o, none⟩) ∧ K ≤ w'.heap.size
theorem kp_of {K : Nat} {W w' : World} (hb : Below K W w') (hk : K ≤ W.heap.size) : KP K W w' := ⟨hb, (bcell hb).1, (bcell hb).2, Nat.le_trans hk hb.size⟩
theorem kp_refl {K : Nat} {W : World} (hk : K ≤ W.heap.size) : KP K W W := kp_of (Below.refl _ _) hk
theorem kp_drew {K : Nat} {W w : World} (h : KP K W w) : KP K W w.drew := ⟨h.1.drew, h.2.1, h.2.2.1, h.2.2.2⟩
theorem kp_next {K : Nat} {W w1 w2 : World} (h : KP K W w1) (hb : Below w1.heap.size w1 w2) : KP K W w2 :=
 have hb' := h.1.trans (hb.mono h.2.2.2); ⟨hb', (bcell hb').1, (bcell hb').2, Nat.le_trans h.2.2.2 hb.size⟩
def rd (w : World) (r o : Nat) : Value := (w.cell? ⟨r, o, none⟩).getD undef
abbrev Slot (r n : Nat) (w' : World) : Prop := (∀ o, w'.frozen? ⟨r, o, none⟩ = false) ∧ (∀ o, o < n → w'.cell? ⟨r, o, none⟩ = some (rd w' r o)) ∧ r < w'.heap.size
theorem slot_of {r n : Nat} {w : World} (h : ∀ o, w.frozen? ⟨r, o, none⟩ = false) (hc : ∀ o, o < n → ∃ v, w.cell? ⟨r, o, none⟩ = some v) (hr : r < w.heap.size) : Slot r n w :=
 ⟨h, fun o ho => by obtain ⟨v, hv⟩ := hc o ho; unfold rd; rw [hv]; rfl, hr⟩
theorem slot_alloc (w : World) (cs : Array Value) (t : TypeId) : Slot w.heap.size cs.size (w.alloc (.cells cs t)) :=
 slot_of (fun o => by simp [go_sem]) (fun o ho => ⟨cs[o], by simp [go_sem, ho]⟩) (by simp)
theorem slot_alloc' {w : World} {cs : Array Value} {t : TypeId} {r n : Nat} (hr : r = w.heap.size) (hn : n = cs.size) : Slot r n (w.alloc (.cells cs t)) := by subst hr hn; exact slot_alloc _ _ _
theorem slot_drew {r n : Nat} {w : World} (h : Slot r n w) : Slot r n w.drew := h
theorem slot_next {r n B : Nat} {w w' : World} (h : Slot r n w) (hb : Below B w w') (hr : r < B) : Slot r n w' :=
 slot_of (fun o => by rw [(bcell hb).2 _ _ hr]; exact h.1 o) (fun o ho => ⟨_, ((bcell hb).1 _ _ hr).trans (h.2.1 o ho)⟩) (Nat.lt_of_lt_of_le h.2.2 hb.size)
theorem slot_set {r n : Nat} {w : World} (h : Slot r n w) (a : Addr) (u : Value) : Slot r n (w.setCell a u) :=
 slot_of (fun o => by rw [World.frozen?_setCell]; exact h.1 o) (fun o ho => cell?_setCell_some (h.2.1 o ho)) (by simpa [World.setCell] using h.2.2)
abbrev KS (K : Nat) (W : World) (r n : Nat) (w' : World) : Prop := KP K W w' ∧ Slot r n w'
theorem ks_drew {K r n : Nat} {W w : World} (h : KS K W r n w) : KS K W r n w.drew := ⟨kp_drew h.1, slot_drew h.2⟩
theorem ks_next {K r n : Nat} {W w1 w2 : World} (h : KS K W r n w1) (hb : Below w1.heap.size w1 w2) : KS K W r n w2 := ⟨kp_next h.1 hb, slot_next h.2 hb h.2.2.2⟩
theorem kp_set {K : Nat} {W w : World} (h : KP K W w) (a : Addr) (u : Value) (ha : K ≤ a.block) : KP K W (w.setCell a u) :=
 have hb := h.1.setCell ha u; ⟨hb, (bcell hb).1, (bcell hb).2, by simpa [World.setCell] using h.2.2.2⟩
theorem ks_set {K r n : Nat} {W w : World} (h : KS K W r n w) (a : Addr) (u : Value) (ha : K ≤ a.block) : KS K W r n (w.setCell a u) := ⟨kp_set h.1 a u ha, slot_set h.2 a u⟩
theorem cell?_unset {w : World} {a q : Addr} {u v : Value} (h : (w.setCell a u).cell? q = some v) : ∃ x, w.cell? q = some x := by
 by_cases e : a = q
 · subst e
   simp only [World.cell?, World.setCell, Array.getElem?_modify, ↓reduceIte] at h ⊢
   cases hb : w.heap[a.block]? with
   | none => rw [hb] at h; simp at h
   | some o => cases o with
     | cells c e f =>
       rw [hb] at h
       by_cases hs : a.spot.isSome = true
       · simp [hs] at h
       · simp [hs] at h ⊢
         have : a.off < c.size := by
          have := h
          rcases Nat.lt_or_ge a.off c.size with h' | h'
          · exact h'
          · simp [Array.setIfInBounds, Nat.not_lt.2 h'] at this
         exact ⟨_, Array.getElem?_eq_getElem this⟩
     | _ => rw [hb] at h; simp at h
 · rw [World.cell?_setCell_other w a q u e] at h; exact ⟨v, h⟩
theorem slot_unset {r n : Nat} {w : World} {a : Addr} {u : Value} (h : Slot r n (w.setCell a u)) : Slot r n w :=
 slot_of (fun o => by have := h.1 o; rwa [World.frozen?_setCell] at this) (fun o ho => cell?_unset (h.2.1 o ho)) (by simpa [World.setCell] using h.2.2)
theorem slot_get {r n : Nat} {w : World} {i : Nat} {u : Value} (h : Slot r n (w.setCell ⟨r, i, none⟩ u)) (hi : i < n) : (w.setCell ⟨r, i, none⟩ u).cell? ⟨r, i, none⟩ = some u :=
 World.cell?_setCell_same _ _ _ ((slot_unset h).2.1 i hi)
theorem slot_ne {r i j : Nat} {w : World} {u : Value} (h : i ≠ j) : (w.setCell ⟨r, i, none⟩ u).cell? ⟨r, j, none⟩ = w.cell? ⟨r, j, none⟩ :=
 World.cell?_setCell_other _ _ _ _ (fun e => h (congrArg Addr.off e))
theorem slot2 {r : Nat} {w : World} {a b : Value} (h : Slot r 2 w) : ((w.setCell ⟨r, 0, none⟩ a).setCell ⟨r, 1, none⟩ b).cell? ⟨r, 0, none⟩ = some a ∧ ((w.setCell ⟨r, 0, none⟩ a).setCell ⟨r, 1, none⟩ b).cell? ⟨r, 1, none⟩ = some b :=
 have h1 := slot_set h ⟨r, 0, none⟩ a; have h2 := slot_set h1 ⟨r, 1, none⟩ b
 ⟨(slot_ne (by decide)).trans (slot_get h1 (by decide)), slot_get h2 (by decide)⟩
theorem slot4 {r : Nat} {w : World} {a b c d : Value} (h : Slot r 4 ((((w.setCell ⟨r, 0, none⟩ a).setCell ⟨r, 1, none⟩ b).setCell ⟨r, 2, none⟩ c).setCell ⟨r, 3, none⟩ d)) :
 ((((w.setCell ⟨r, 0, none⟩ a).setCell ⟨r, 1, none⟩ b).setCell ⟨r, 2, none⟩ c).setCell ⟨r, 3, none⟩ d).cell? ⟨r, 0, none⟩ = some a ∧
 ((((w.setCell ⟨r, 0, none⟩ a).setCell ⟨r, 1, none⟩ b).setCell ⟨r, 2, none⟩ c).setCell ⟨r, 3, none⟩ d).cell? ⟨r, 1, none⟩ = some b ∧
 ((((w.setCell ⟨r, 0, none⟩ a).setCell ⟨r, 1, none⟩ b).setCell ⟨r, 2, none⟩ c).setCell ⟨r, 3, none⟩ d).cell? ⟨r, 2, none⟩ = some c ∧
 ((((w.setCell ⟨r, 0, none⟩ a).setCell ⟨r, 1, none⟩ b).setCell ⟨r, 2, none⟩ c).setCell ⟨r, 3, none⟩ d).cell? ⟨r, 3, none⟩ = some d := by
 have h2 := slot_unset h; have h1 := slot_unset h2; have h0 := slot_unset h1
 refine ⟨?_, ?_, ?_, slot_get h (by decide)⟩
 · rw [slot_ne (by decide), slot_ne (by decide), slot_ne (by decide)]; exact slot_get h0 (by decide)
 · rw [slot_ne (by decide), slot_ne (by decide)]; exact slot_get h1 (by decide)
 · rw [slot_ne (by decide)]; exact slot_get h2 (by decide)
theorem slot_there {r n : Nat} {w : World} (h : Slot r n w) : w.there r 0 n := fun j hj => ⟨by rw [Nat.zero_add, h.2.1 j hj]; rfl, h.1 _⟩
theorem below_setCells {B b : Nat} {a : World} (hb : B ≤ b) : ∀ (vs : List Value) (o : Nat) (w : World), Below B a w → Below B a (w.setCells b o vs)
 | [], _, _, h => h
 | v :: r, o, w, h => below_setCells hb r (o + 1) _ (h.setCell hb v)
theorem store_mid {P : Program} {ops : Array Oper} {rest : List Oper} {op : Oper} {a : Act} {w : World} {Q : Exit → Act → World → Prop} (hgd : op.guard = none) (ty : TypeId) (x y : Operand) (ho : op.op = .store ty x y)
 (b o : Nat) (cells : Array Value) (hx : a.eval x = Y (some ⟨b, o, none⟩)) (hy : a.eval y = .agg cells)
 (ht : w.there b o cells.size) (hi : (P.info? ty).map (·.size) = some cells.size) (h1 : cells.toList.all (·.oneCell') = true)
 (h : wpList P ops Q rest (a.put op.dst undef) (w.setCells b o cells.toList)) : wpList P ops Q (op :: rest) a w :=
 wpList_store_mid hgd ty x y ho b o cells hx hy ht hi (by rw [← Array.all_toList]; exact h1) h
theorem ret_int {k : IntKind} {a b : Int} (h : a = b) : Ending.returned (.int k a) = .returned (.int k b) := by rw [h]
theorem ret_bool {a b : Bool} (h : a = b) : Ending.returned (.bool a) = .returned (.bool b) := by rw [h]
theorem bdrew {B : Nat} {a w : World} (h : Below B a w) (n : Nat) : Below B a (w.drewN n) := by
 induction n generalizing w with
 | zero => exact h
 | succ n ih => exact (ih h).drew
/-! ### bits of an int -/
theorem i64_wrap_id (n : Int) (h₀ : 0 ≤ n) (h₁ : n < 2 ^ 63) : IntKind.i64.wrap n = n := by rw [IntKind.wrap_i64]; omega
theorem i64_andN (a b : Nat) (ha : a < 2 ^ 63) (hb : b < 2 ^ 63) : bits .and .i64 (a : Int) (b : Int) = ((a &&& b : Nat) : Int) :=
 (bits_nat .i64 63 (by decide) i64_wrap_id a b ha hb).1
theorem i64_orN (a b : Nat) (ha : a < 2 ^ 63) (hb : b < 2 ^ 63) : bits .or .i64 (a : Int) (b : Int) = ((a ||| b : Nat) : Int) :=
 (bits_nat .i64 63 (by decide) i64_wrap_id a b ha hb).2
theorem ofInt64_toNat (x : Int) : (BitVec.ofInt 64 x).toNat = (x % 18446744073709551616).toNat := by
 simp [BitVec.toNat_ofInt]
theorem emod_pow_pow (x : Int) (b : Nat) (hb : b ≤ 64) : x % 18446744073709551616 % 2 ^ b = x % 2 ^ b := by
 apply Int.emod_emod_of_dvd
 have : (18446744073709551616 : Int) = 2 ^ b * 2 ^ (64 - b) := by rw [← Int.pow_add, show b + (64 - b) = 64 by omega]; rfl
 rw [this]; exact Int.dvd_mul_right _ _
theorem i64_and_mask (x : Int) (b : Nat) (hb : b ≤ 62) : bits .and .i64 x (2 ^ b - 1) = x % 2 ^ b := by
 have hp : (0 : Int) < 2 ^ b := Int.pow_pos (by decide)
 have h0 := Int.emod_nonneg x (Int.ne_of_gt hp)
 have h1 := Int.emod_lt_of_pos x hp
 have hlt : (2 : Int) ^ b ≤ 2 ^ 62 := by
  have : (2 : Nat) ^ b ≤ 2 ^ 62 := Nat.pow_le_pow_right (by decide) hb
  exact_mod_cast this
 have hpn : 0 < 2 ^ b := Nat.two_pow_pos b
 have hltn : (2 : Nat) ^ b ≤ 2 ^ 62 := Nat.pow_le_pow_right (by decide) hb
 have hc : ((2 : Int) ^ b - 1) = ((2 ^ b - 1 : Nat) : Int) := by rw [Int.natCast_sub hpn]; simp
 have hm : (BitVec.ofInt 64 ((2 : Int) ^ b - 1)).toNat = 2 ^ b - 1 := by
  rw [hc, BitVec.ofInt_natCast, BitVec.toNat_ofNat]; exact Nat.mod_eq_of_lt (by omega)
 have e : (BitVec.ofInt 64 x &&& BitVec.ofInt 64 ((2 : Int) ^ b - 1)).toNat = (x % 2 ^ b).toNat := by
  rw [BitVec.toNat_and, hm, Nat.and_two_pow_sub_one_eq_mod, ofInt64_toNat]
  have h2 := Int.emod_nonneg x (by decide : (18446744073709551616 : Int) ≠ 0)
  have : (((x % 18446744073709551616).toNat % 2 ^ b : Nat) : Int) = ((x % 2 ^ b).toNat : Int) := by
   rw [Int.natCast_emod, Int.toNat_of_nonneg h2, Int.toNat_of_nonneg h0, ← emod_pow_pow x b (by omega), Int.natCast_pow]; rfl
  exact Int.ofNat_inj.mp this
 show IntKind.i64.wrap ((BitVec.ofInt 64 x &&& BitVec.ofInt 64 ((2 : Int) ^ b - 1)).toNat : Int) = _
 rw [e, Int.toNat_of_nonneg h0]
 exact i64_wrap_id _ h0 (by omega)
theorem i64_and_one (x : Int) : bits .and .i64 x 1 = x % 2 := i64_and_mask x 1 (by decide)
def bitB (w : Int) (i : Nat) : Bool := decide (w / 2 ^ i % 2 = 1)
theorem pow_pos' (i : Nat) : (0 : Int) < 2 ^ i := Int.pow_pos (by decide)
theorem pow_succ' (i : Nat) : (2 : Int) ^ (i + 1) = 2 * 2 ^ i := by rw [Int.pow_succ, Int.mul_comm]
theorem pow_le' {i j : Nat} (h : i ≤ j) : (2 : Int) ^ i ≤ 2 ^ j := by
 have : (2 : Nat) ^ i ≤ 2 ^ j := Nat.pow_le_pow_right (by decide) h
 exact_mod_cast this
theorem div_pow_succ (w : Int) (i : Nat) : w / 2 ^ (i + 1) = w / 2 ^ i / 2 := by
 rw [Int.pow_succ, Int.mul_comm, Int.mul_comm 2, ← Int.ediv_ediv_of_nonneg (Int.le_of_lt (pow_pos' i))]
end Go.Proofs.YtfchnibjjokmbaaGreat
namespace Go
section
variable {P : Program} {ops : Array Oper} {Q : Exit → Act → World → Prop} {md : Region.Mode} {S : World → Prop} {late : Nat → Bool}
def lateOk (md : Region.Mode) (ops : Array Oper) (late : Nat → Bool) : Bool :=
 (List.range ops.size).all fun j => !late j || (List.range ops.size).all fun i => late i || match ops[j]? with
   | none => true
   | some o => o.after.any fun e => Region.binds md e && e.on == i
def wpAnyT (P : Program) (md : Region.Mode) (ops : Array Oper) (Q : Exit → Act → World → Prop) (S : World → Prop) (late : Nat → Bool) : Nat → Array Bool → Act → World → Prop
 | 0, listed, a, w => Region.ready md ops listed = [] ∧ Q .normal a w
 | fuel + 1, listed, a, w =>
   (Region.ready md ops listed = [] → Q .normal a w) ∧
   ∀ i ∈ Region.ready md ops listed, wpOp P ops Q i (fun a' w' => (late i = false → S w') ∧ wpAnyT P md ops Q S late fuel (listed.setIfInBounds i true) a' w') a w
theorem wpAny_of_T : ∀ (fuel : Nat) (listed : Array Bool) (a : Act) (w : World), wpAnyT P md ops Q S late fuel listed a w → wpAny P md ops Q fuel listed a w
 | 0, _, _, _, h => h
 | fuel + 1, _, _, _, h => ⟨h.1, fun i hi => wpOp_mono (fun a' w' h' => wpAny_of_T fuel _ a' w' h'.2) (h.2 i hi)⟩
theorem wpAnyT_first {i : Nat} {oi : Oper} {v : Value} (hi : ops[i]? = some oi) (hsel : ∀ (j : Nat) (o : Oper) cs b, ops[j]? = some o → o.op ≠ .select cs b)
 (hQ : ∀ c a w, Q (.panic c) (a.put oi.dst v) w → Q (.panic c) a w) (hlt : lateOk md ops late = true) (hli : late i = false) :
 ∀ (fuel : Nat) (listed : Array Bool) (a : Act) (w : World),
  (∀ j oj, ops[j]? = some oj → j ≠ i → listed.getD j true = false → (∀ e ∈ oj.after, Region.binds md e = true → e.on ≠ i) → oi.apart ops oj = true) →
  i ∈ Region.ready md ops listed → YieldsIf P ops S oi v a → S w →
  wpAnyT P md ops Q S late fuel (listed.setIfInBounds i true) (a.put oi.dst v) w → wpAnyT P md ops Q S late (fuel + 1) listed a w := by
 intro fuel
 induction fuel with
 | zero =>
   intro listed a w _ hr hy hS H
   refine ⟨fun h => (by rw [h] at hr; cases hr), fun j hj => ?_⟩
   by_cases hji : j = i
   · subst hji; exact hy.wpOp hi hS ⟨fun _ => hS, H⟩
   · have := ready_mono hj hji
     rw [H.1] at this
     cases this
 | succ fuel ih =>
   intro listed a w hfree hr hy hS H
   refine ⟨fun h => (by rw [h] at hr; cases hr), fun j hj => ?_⟩
   by_cases hji : j = i
   · subst hji; exact hy.wpOp hi hS ⟨fun _ => hS, H⟩
   · have h1 := H.2 j (ready_mono hj hji)
     obtain ⟨hjun, oj, hoj, hall⟩ := mem_ready.1 hj
     have hnot : ∀ e ∈ oj.after, Region.binds md e = true → e.on ≠ i := fun e he hb heq => by
      have h1 := hall e he hb
      have h0 := (mem_ready.1 hr).1
      rw [heq] at h1
      rcases Nat.lt_or_ge i listed.size with h' | h'
      · simp [h'] at h0 h1; rw [h0] at h1; cases h1
      · simp [Array.getElem?_eq_none h'] at h1
     have hjl : late j = false := by
      cases hl : late j with
      | false => rfl
      | true =>
        have hjs : j < ops.size := (Array.getElem?_eq_some_iff.1 hoj).1
        have his : i < ops.size := (Array.getElem?_eq_some_iff.1 hi).1
        unfold lateOk at hlt
        have h2 := List.all_eq_true.1 hlt j (List.mem_range.2 hjs)
        rw [hl, Bool.not_true, Bool.false_or] at h2
        have h3 := List.all_eq_true.1 h2 i (List.mem_range.2 his)
        rw [hli, Bool.false_or, hoj] at h3
        obtain ⟨e, he, h4⟩ := Array.any_eq_true'.1 h3
        rw [Bool.and_eq_true, beq_iff_eq] at h4
        exact absurd h4.2 (hnot e he h4.1)
     have h2 := wpOp_putIf hoj (hfree j oj hoj hji hjun hnot) (fun cs b => hsel i oi cs b hi) (fun cs b => hsel j oj cs b hoj) hQ hy h1
     have hfree' : ∀ k ok, ops[k]? = some ok → k ≠ i → (listed.setIfInBounds j true).getD k true = false →
      (∀ e ∈ ok.after, Region.binds md e = true → e.on ≠ i) → oi.apart ops ok = true := fun k ok hk hki hun hno => by
      refine hfree k ok hk hki ?_ hno
      by_cases hjk : j = k
      · subst hjk; exact hjun
      · rw [getD_set_ne true hjk] at hun; exact hun
     refine wpOp_mono (fun a' w' h3 => ⟨h3.2.1, ih (listed.setIfInBounds j true) a' w' hfree' (ready_mono hr (Ne.symm hji)) h3.1 (h3.2.1 hjl) ?_⟩) h2
     rw [Array.setIfInBounds_comm _ _ hji]
     exact h3.2.2
theorem wpAnyT_take {i : Nat} {oi : Oper} {v : Value} {fuel : Nat} {listed : Array Bool} {a : Act} {w : World} (hi : ops[i]? = some oi)
 (hs : Region.noSelect ops = true) (hf : Region.free md ops listed i = true) (hr : (Region.ready md ops listed).contains i = true) (hlt : lateOk md ops late = true) (hli : late i = false)
 (hQ : ∀ c a w, Q (.panic c) (a.put oi.dst v) w → Q (.panic c) a w) (hy : YieldsIf P ops S oi v a) (hS : S w)
 (h : wpAnyT P md ops Q S late fuel (listed.setIfInBounds i true) (a.put oi.dst v) w) : wpAnyT P md ops Q S late (fuel + 1) listed a w :=
 wpAnyT_first hi (Region.noSelect_spec hs) hQ hlt hli fuel listed a w (Region.free_spec hi hf) (by simpa using hr) hy hS h
theorem wpAnyT_one {i : Nat} {o : Oper} {fuel : Nat} {listed : Array Bool} {a : Act} {w : World} (hr : Region.ready md ops listed = [i]) (ho : ops[i]? = some o) (hl : late i = true)
 (h : ∀ K' : Act → World → Prop, Shut (∀ a w, wpAnyT P md ops Q S late fuel (listed.setIfInBounds i true) a w → K' a w) → if Region.wanted o (yielded ops a.tmps) = true then Oper.wp P o a w K' Q else K' (a.put o.dst undef) w) : wpAnyT P md ops Q S late (fuel + 1) listed a w := by
 refine ⟨fun h0 => (by rw [hr] at h0; cases h0), fun j hj => ?_⟩
 rw [hr, List.mem_singleton] at hj
 subst hj
 exact wpOp_step ho (fun K' hK => h K' (fun a w hW => hK a w ⟨fun h => (by rw [hl] at h; cases h), hW⟩))
theorem wpAnyT_mid {i : Nat} {o : Oper} {fuel : Nat} {listed : Array Bool} {a : Act} {w : World} (hr : Region.ready md ops listed = [i]) (ho : ops[i]? = some o)
 (h : ∀ K' : Act → World → Prop, Shut (∀ a w, S w → wpAnyT P md ops Q S late fuel (listed.setIfInBounds i true) a w → K' a w) → if Region.wanted o (yielded ops a.tmps) = true then Oper.wp P o a w K' Q else K' (a.put o.dst undef) w) : wpAnyT P md ops Q S late (fuel + 1) listed a w := by
 refine ⟨fun h0 => (by rw [hr] at h0; cases h0), fun j hj => ?_⟩
 rw [hr, List.mem_singleton] at hj
 subst hj
 exact wpOp_step ho (fun K' hK => h K' (fun a w hs hW => hK a w ⟨fun _ => hs, hW⟩))
theorem wpAnyT_done {listed : Array Bool} {a : Act} {w : World} (hr : Region.ready md ops listed = []) (h : Q .normal a w) : ∀ fuel, wpAnyT P md ops Q S late fuel listed a w
 | 0 => ⟨hr, h⟩
 | _ + 1 => ⟨fun _ => h, by rw [hr]; simp⟩
theorem wp_region_T (S : World → Prop) (late : Nat → Bool) {id : Nat} {a : Act} {w : World} (hm : P.follows .mixedOrders = true)
 (h : wpAnyT P .any ops Q S late ops.size (Array.replicate ops.size false) a w.drew) : (Code.region id ops true).wp P Q a w :=
 wp_region_any hm (wpAny_of_T _ _ _ _ h)
end
end Go
namespace Go.Proofs.YtfchnibjjokmbaaGreat
open Go.RowKit
def Stored (w : World) (b o : Nat) (vs : List Value) (w2 : World) : Prop := w2 = w.setCells b o vs
theorem store_gen {P : Program} {ops : Array Oper} {rest : List Oper} {op : Oper} {a : Act} {w : World} {Q : Exit → Act → World → Prop} (hgd : op.guard = none) (ty : TypeId) (x y : Operand) (ho : op.op = .store ty x y)
 (b o : Nat) (cells : Array Value) (hx : a.eval x = Y (some ⟨b, o, none⟩)) (hy : a.eval y = .agg cells)
 (ht : w.there b o cells.size) (hi : (P.info? ty).map (·.size) = some cells.size) (h1 : cells.toList.all (·.oneCell') = true)
 (h : ∀ w2, Stored w b o cells.toList w2 → wpList P ops Q rest (a.put op.dst undef) w2) : wpList P ops Q (op :: rest) a w :=
 store_mid hgd ty x y ho b o cells hx hy ht hi h1 (h _ rfl)
theorem Stored.below {w w2 a : World} {b o B : Nat} {vs : List Value} (h : Stored w b o vs w2) (hb : Below B a w) (hB : B ≤ b) : Below B a w2 := by
 rw [show w2 = _ from h]; exact below_setCells hB vs o w hb
theorem Stored.range {w w2 : World} {b o : Nat} {vs : List Value} (h : Stored w b o vs w2) (ht : w.there b o vs.length) : w2.rangeAt b o vs := by
 rw [show w2 = _ from h]; exact World.rangeAt_setCells_same w b o vs ht
theorem Stored.cell {w w2 : World} {b o : Nat} {vs : List Value} (h : Stored w b o vs w2) (b' o' : Nat) (hn : b' ≠ b ∨ o' < o ∨ o + vs.length ≤ o') : w2.cell? ⟨b', o', none⟩ = w.cell? ⟨b', o', none⟩ := by
 rw [show w2 = _ from h]
 exact World.cell?_setCells_out b vs o w _ (fun e _ => by rcases hn with hn | hn; · exact absurd e hn
                                                          · exact hn)
theorem Stored.frozen {w w2 : World} {b o : Nat} {vs : List Value} (h : Stored w b o vs w2) (a : Addr) : w2.frozen? a = w.frozen? a := by
 rw [show w2 = _ from h]; exact World.frozen?_setCells ..
theorem Stored.size {w w2 : World} {b o : Nat} {vs : List Value} (h : Stored w b o vs w2) : w2.heap.size = w.heap.size := by
 rw [show w2 = _ from h]; clear h
 induction vs generalizing w o with
 | nil => rfl
 | cons v r ih => rw [World.setCells, ih]; simp [World.setCell]
theorem Stored.slot {w w2 : World} {b o r n : Nat} {vs : List Value} (h : Stored w b o vs w2) (hs : Slot r n w) : Slot r n w2 := by
 rw [show w2 = _ from h]; clear h
 induction vs generalizing w o with
 | nil => exact hs
 | cons v rs ih => rw [World.setCells]; exact ih (slot_set hs _ _)
theorem aD {P : Program} {fn : Func} {p : Tmp} {ty : TypeId} (h : fn.results = #[.cell p ty]) (tmps : Array Value) (w : World) (b : Nat) (cs : List Value) (d : TypeDesc)
 (hp : tmps.getD p undef = Y (some ⟨b, 0, none⟩)) (R : w.rangeAt b 0 cs) (hu : P.underlying ty = some d) (hd : d.isRow = true) (hi : (P.info? ty).map (·.size) = some cs.length) :
 (results fn tmps).run P w = .ok (.agg cs.toArray) w := by
 have hp' : tmps[p]?.getD undef = Y (some ⟨b, 0, none⟩) := by simpa using hp
 simp [results, h, hp', asAddr, run_loadVar_mid w b 0 ty cs d R hu hd hi]
theorem ag {P : Program} {fn : Func} {p q : Tmp} {ty : TypeId} (h : fn.results = #[.cell p ty, .tmp q]) (tmps : Array Value) (w : World) (b : Nat) (cs : List Value) (d : TypeDesc)
 (hp : tmps.getD p undef = Y (some ⟨b, 0, none⟩)) (R : w.rangeAt b 0 cs) (hu : P.underlying ty = some d) (hd : d.isRow = true) (hi : (P.info? ty).map (·.size) = some cs.length) :
 (results fn tmps).run P w = .ok (.tuple #[.agg cs.toArray, tmps.getD q undef]) w := by
 have hp' : tmps[p]?.getD undef = Y (some ⟨b, 0, none⟩) := by simpa using hp
 simp [results, h, hp', asAddr, run_loadVar_mid w b 0 ty cs d R hu hd hi]
theorem results_c2 {P : Program} {fn : Func} {p q r : Tmp} {ty : TypeId} (h : fn.results = #[.cell p ty, .tmp q, .tmp r]) (tmps : Array Value) (w : World) (b : Nat) (cs : List Value) (d : TypeDesc)
 (hp : tmps.getD p undef = Y (some ⟨b, 0, none⟩)) (R : w.rangeAt b 0 cs) (hu : P.underlying ty = some d) (hd : d.isRow = true) (hi : (P.info? ty).map (·.size) = some cs.length) :
 (results fn tmps).run P w = .ok (.tuple #[.agg cs.toArray, tmps.getD q undef, tmps.getD r undef]) w := by
 have hp' : tmps[p]?.getD undef = Y (some ⟨b, 0, none⟩) := by simpa using hp
 simp [results, h, hp', asAddr, run_loadVar_mid w b 0 ty cs d R hu hd hi]
def Obj1 (w : World) (b : Nat) (cs : Array Value) (T : TypeId) : Prop := w.heap[b]? = some (.cells cs T (0, 0))
theorem Obj1.cell {w : World} {b : Nat} {cs : Array Value} {T : TypeId} (h : Obj1 w b cs T) (i : Nat) : w.cell? ⟨b, i, none⟩ = cs[i]? := by
 unfold Obj1 at h; simp [World.cell?, h]
theorem Obj1.frozen {w : World} {b : Nat} {cs : Array Value} {T : TypeId} (h : Obj1 w b cs T) (i : Nat) : w.frozen? ⟨b, i, none⟩ = false := by
 unfold Obj1 at h; simp [World.frozen?, h]
theorem Obj1.lt {w : World} {b : Nat} {cs : Array Value} {T : TypeId} (h : Obj1 w b cs T) : b < w.heap.size := (Array.getElem?_eq_some_iff.1 h).1
theorem Obj1.set {w : World} {b : Nat} {cs : Array Value} {T : TypeId} (h : Obj1 w b cs T) (i : Nat) (v : Value) : Obj1 (w.setCell ⟨b, i, none⟩ v) b (cs.setIfInBounds i v) T := by
 unfold Obj1 at h ⊢; simp [World.setCell, Array.getElem?_modify, h]
theorem Obj1.set_other {w : World} {b : Nat} {cs : Array Value} {T : TypeId} (h : Obj1 w b cs T) (a : Addr) (v : Value) (hn : b ≠ a.block) : Obj1 (w.setCell a v) b cs T := by
 unfold Obj1 at h ⊢; rw [Below.heap_setCell _ _ _ _ hn]; exact h
theorem Obj1.alloc {w : World} {b : Nat} {cs : Array Value} {T : TypeId} (h : Obj1 w b cs T) (o : Obj) : Obj1 (w.alloc o) b cs T := by
 have hl := h.lt
 unfold Obj1 at h ⊢; rw [Below.heap_alloc _ _ _ hl]; exact h
theorem Obj1.drew {w : World} {b : Nat} {cs : Array Value} {T : TypeId} (h : Obj1 w b cs T) : Obj1 w.drew b cs T := h
theorem drewN_heap (w : World) (n : Nat) : (w.drewN n).heap = w.heap := by
 induction n generalizing w with
 | zero => rfl
 | succ n ih => exact ih w.drew
theorem Obj1.drewN {w : World} {b : Nat} {cs : Array Value} {T : TypeId} (h : Obj1 w b cs T) (n : Nat) : Obj1 (w.drewN n) b cs T := by
 unfold Obj1 at h ⊢; rw [drewN_heap]; exact h
theorem aA (w : World) (cs : Array Value) (T : TypeId) : Obj1 (w.alloc (.cells cs T)) w.heap.size cs T := heap_alloc_new w _
theorem Obj1.below {w w' : World} {b B : Nat} {cs : Array Value} {T : TypeId} (h : Obj1 w b cs T) (hb : Below B w w') (hlt : b < B) : Obj1 w' b cs T := by
 unfold Obj1 at h ⊢; rw [hb.block b hlt]; exact h
structure Chg (S : Nat → Prop) (w w' : World) : Prop where
 os : w'.os = w.os
 tape : w'.tape = w.tape
 output : w'.output = w.output
 size : w.heap.size ≤ w'.heap.size
 block : ∀ k, k < w.heap.size → ¬ S k → w'.heap[k]? = w.heap[k]?
theorem Chg.refl (S : Nat → Prop) (w : World) : Chg S w w := ⟨rfl, rfl, rfl, Nat.le_refl _, fun _ _ _ => rfl⟩
theorem Chg.trans {S : Nat → Prop} {a b c : World} (h : Chg S a b) (k : Chg S b c) : Chg S a c :=
 ⟨k.os.trans h.os, k.tape.trans h.tape, k.output.trans h.output, Nat.le_trans h.size k.size, fun i hi hs => (k.block i (Nat.lt_of_lt_of_le hi h.size) hs).trans (h.block i hi hs)⟩
theorem Chg.mono {S S' : Nat → Prop} {w w' : World} (h : Chg S w w') (hS : ∀ k, k < w.heap.size → S k → S' k) : Chg S' w w' := ⟨h.os, h.tape, h.output, h.size, fun k hk hn => h.block k hk (fun hs => hn (hS k hk hs))⟩
theorem Chg.drew {S : Nat → Prop} {a w : World} (h : Chg S a w) : Chg S a w.drew := ⟨h.os, h.tape, h.output, h.size, h.block⟩
theorem Chg.drewN {S : Nat → Prop} {a w : World} (h : Chg S a w) (n : Nat) : Chg S a (w.drewN n) := by
 induction n with
 | zero => exact h
 | succ n ih => exact ih.drew
theorem Chg.set {S : Nat → Prop} {a w : World} (h : Chg S a w) (p : Addr) (v : Value) (hp : S p.block ∨ a.heap.size ≤ p.block) : Chg S a (w.setCell p v) :=
 ⟨h.os, h.tape, h.output, by simpa [World.setCell] using h.size, fun k hk hn => by
   rw [Below.heap_setCell _ _ _ _ (fun e => by subst e; rcases hp with hp | hp; · exact hn hp
                                               · omega)]
   exact h.block k hk hn⟩
theorem Chg.alloc {S : Nat → Prop} {a w : World} (h : Chg S a w) (o : Obj) : Chg S a (w.alloc o) :=
 ⟨h.os, h.tape, h.output, Nat.le_trans h.size (by simp), fun k hk hn => (Below.heap_alloc _ _ _ (Nat.lt_of_lt_of_le hk h.size)).trans (h.block k hk hn)⟩
theorem aB {w w' : World} (h : Below w.heap.size w w') (S : Nat → Prop) : Chg S w w' := ⟨h.os, h.tape, h.output, h.size, fun k hk _ => h.block k hk⟩
theorem Chg.below {S : Nat → Prop} {w w' : World} (h : Chg S w w') {B : Nat} (hB : B ≤ w.heap.size) (hS : ∀ k, S k → B ≤ k) : Below B w w' :=
 ⟨h.os, h.tape, h.output, h.size, fun k hk => h.block k (by omega) (fun hs => by have := hS k hs; omega)⟩
theorem Chg.obj {S : Nat → Prop} {w w' : World} (h : Chg S w w') {b : Nat} {cs : Array Value} {T : TypeId} (ho : Obj1 w b cs T) (hn : ¬ S b) : Obj1 w' b cs T := by
 have hl := ho.lt
 unfold Obj1 at ho ⊢; rw [h.block b hl hn]; exact ho
theorem Chg.cell {S : Nat → Prop} {w w' : World} (h : Chg S w w') {b o : Nat} (hb : b < w.heap.size) (hn : ¬ S b) : w'.cell? ⟨b, o, none⟩ = w.cell? ⟨b, o, none⟩ := World.cell?_of_block (w := w) (h.block b hb hn)
theorem bchg {B : Nat} {a b c : World} (h : Below B a b) {S : Nat → Prop} (k : Chg S b c) (hB : B ≤ b.heap.size) (hS : ∀ k, S k → B ≤ k) : Below B a c := h.trans (k.below hB hS)
theorem Obj1.there {w : World} {b : Nat} {cs : Array Value} {T : TypeId} (h : Obj1 w b cs T) (o n : Nat) (hn : o + n ≤ cs.size) : w.there b o n := fun j hj => by
 refine ⟨?_, h.frozen _⟩
 rw [h.cell, Array.getElem?_eq_getElem (by omega)]; rfl
theorem Obj1.range0 {w : World} {b : Nat} {cs : List Value} {T : TypeId} (h : Obj1 w b cs.toArray T) : w.rangeAt b 0 cs := fun j v hv => by
 rw [h.cell, Nat.zero_add]; simpa using hv
def setL : Array Value → Nat → List Value → Array Value
 | cs, _, [] => cs
 | cs, o, v :: r => setL (cs.setIfInBounds o v) (o + 1) r
theorem Stored.obj {w w2 : World} {b o : Nat} {vs : List Value} {cs : Array Value} {T : TypeId} (hst : Stored w b o vs w2) (h : Obj1 w b cs T) : Obj1 w2 b (setL cs o vs) T := by
 rw [show w2 = _ from hst]; clear hst
 induction vs generalizing w o cs with
 | nil => exact h
 | cons v r ih => rw [World.setCells, setL]; exact ih (h.set o v)
theorem Stored.oth {w w2 : World} {b o b' : Nat} {vs : List Value} {cs : Array Value} {T : TypeId} (hst : Stored w b o vs w2) (h : Obj1 w b' cs T) (hn : b' ≠ b) : Obj1 w2 b' cs T := by
 rw [show w2 = _ from hst]; clear hst
 induction vs generalizing w o with
 | nil => exact h
 | cons v r ih => rw [World.setCells]; exact ih (h.set_other _ _ hn)
theorem setL_get' (vs : List Value) : ∀ (cs : Array Value) (o i : Nat), o + vs.length ≤ cs.size → (setL cs o vs)[i]? = if o ≤ i ∧ i < o + vs.length then vs[i - o]? else cs[i]? := by
 induction vs with
 | nil => intro cs o i h; rw [setL, if_neg (by simp)]
 | cons v r ih =>
   intro cs o i h
   rw [setL, ih _ _ _ (by simp at h ⊢; omega)]
   simp only [List.length_cons] at h ⊢
   by_cases h1 : o + 1 ≤ i ∧ i < o + 1 + r.length
   · rw [if_pos h1, if_pos (by omega), show i - o = (i - (o + 1)) + 1 by omega, List.getElem?_cons_succ]
   · rw [if_neg h1]
     by_cases h2 : i = o
     · subst h2; rw [if_pos (by omega), Nat.sub_self]; simp [Array.getElem?_setIfInBounds]; omega
     · rw [if_neg (by omega), Array.getElem?_setIfInBounds, if_neg (by omega)]
theorem setL_full' (cs : Array Value) (vs : List Value) (h : vs.length = cs.size) : setL cs 0 vs = vs.toArray := by
 apply Array.ext_getElem?
 intro i
 rw [setL_get' vs cs 0 i (by omega)]
 by_cases hi : i < vs.length
 · rw [if_pos (by omega)]; simp
 · rw [if_neg (by omega), Array.getElem?_eq_none (by omega)]; simp; omega
theorem Stored.whole {w w2 : World} {b : Nat} {vs : List Value} {cs : Array Value} {T : TypeId} (hst : Stored w b 0 vs w2) (h : Obj1 w b cs T) (hl : vs.length = cs.size) : Obj1 w2 b vs.toArray T := by
 have := hst.obj h; rwa [setL_full' _ _ hl] at this
theorem store_o {P : Program} {ops : Array Oper} {rest : List Oper} {op : Oper} {a : Act} {w : World} {Q : Exit → Act → World → Prop} (hgd : op.guard = none) (ty : TypeId) (n : Nat) (x y : Operand) (ho : op.op = .store ty x y)
 (b : Nat) (YS : List Value) (hl : YS.length = n) (h1 : YS.all (·.oneCell') = true) (hx : a.eval x = Y (some ⟨b, 0, none⟩)) (hy : a.eval y = .agg YS.toArray) (hi : (P.info? ty).map (·.size) = some n) {cs : Array Value} {T : TypeId} (hO : Obj1 w b cs T) (hs : cs.size = n)
 (h : ∀ w2, Stored w b 0 YS w2 → Obj1 w2 b YS.toArray T → wpList P ops Q rest (a.put op.dst undef) w2) : wpList P ops Q (op :: rest) a w :=
 store_gen hgd ty x y ho b 0 YS.toArray hx hy (by have := hO.there 0 n (by omega); simpa [hl] using this) (by rw [List.size_toArray, hl]; exact hi) (by simpa using h1)
  fun w2 hst => h w2 (by simpa using hst) ((show Stored w b 0 YS w2 by simpa using hst).whole hO (by omega))
theorem aload64 (L o : Nat) (v : Int) (w : World) (hc : w.cell? ⟨L, o, none⟩ = some (J I v)) : Calls Tryz.prog 30 #[Y (some ⟨L, o, none⟩)] w fun e w' => e = .returned (J I v) ∧ w = w' := by
 have hl := run_call_load (P := Tryz.prog) Tryz.func66 (by kernel_rfl) (by kernel_rfl) (by kernel_rfl) .i64 (by kernel_rfl) hc
 go_enter Tryz.func30, Tryz.ntmps30
 go_wp2
 go_ret
 exact ⟨rfl, rfl⟩
theorem bload_f (L o : Nat) (w : World) (hc : w.cell? ⟨L, o, none⟩ = some (.int .u32 0)) : Calls Tryz.prog 31 #[Y (some ⟨L, o, none⟩)] w fun e w' => e = .returned (.bool false) ∧ w = w' := by
 have hl := run_call_load (P := Tryz.prog) Tryz.func67 (by kernel_rfl) (by kernel_rfl) (by kernel_rfl) .u32 (by kernel_rfl) hc
 go_enter Tryz.func31, Tryz.ntmps31
 go_wp2
 go_ret
 exact ⟨rfl, rfl⟩
theorem bload_t (L o : Nat) (w : World) (hc : w.cell? ⟨L, o, none⟩ = some (.int .u32 1)) : Calls Tryz.prog 31 #[Y (some ⟨L, o, none⟩)] w fun e w' => e = .returned (.bool true) ∧ w = w' := by
 have hl := run_call_load (P := Tryz.prog) Tryz.func67 (by kernel_rfl) (by kernel_rfl) (by kernel_rfl) .u32 (by kernel_rfl) hc
 go_enter Tryz.func31, Tryz.ntmps31
 go_wp2
 go_ret
 exact ⟨rfl, rfl⟩
theorem acas64 (L o : Nat) (v y : Int) (w : World) (hc : w.cell? ⟨L, o, none⟩ = some (J I v)) (hz : w.frozen? ⟨L, o, none⟩ = false) :
 Calls Tryz.prog 165 #[Y (some ⟨L, o, none⟩), J I v, J I y] w fun e w' => e = .returned (.bool true) ∧ w.setCell ⟨L, o, none⟩ (J I y) = w' := by
 have hcas := run_call_cas_hit (P := Tryz.prog) Tryz.func193 (by kernel_rfl) (by kernel_rfl) (by kernel_rfl) .i64 (by kernel_rfl) (y := y) hc hz
 go_enter Tryz.func165, Tryz.ntmps165
 go_wp2
 go_ret
 exact ⟨rfl, rfl⟩
theorem add_ok (L o : Nat) (n most reason was : Int) (w : World) (hbr : w.cell? ⟨L, 7, none⟩ = some (.int .u32 0)) (hc : w.cell? ⟨L, o, none⟩ = some (J I was)) (hz : w.frozen? ⟨L, o, none⟩ = false)
 (h0 : 0 ≤ n) (h1 : n ≤ most - was) (h2 : 0 ≤ was) (h3 : was ≤ most) (h4 : most ≤ 9223372036854775807) :
 Calls Tryz.prog 164 #[Y (some ⟨L, 0, none⟩), Y (some ⟨L, o, none⟩), J I n, J I most, J I reason] w fun e w' => e = .returned (.bool true) ∧ w.setCell ⟨L, o, none⟩ (J I (was + n)) = w' := by
 go_enter Tryz.func164, Tryz.ntmps164
 go_wp2
 refine wp_loop_rounds 1 ?_
 rw [rounds_succ]
 go_wp2_with (first
  | (go_at_call 31; (with_reducible refine (bload_f _ _ _ (by assumption)).mono ?_); rintro e w1 ⟨rfl, rfl⟩)
  | (go_at_call 30; (with_reducible refine (aload64 _ _ _ _ (by assumption)).mono ?_); rintro e w1 ⟨rfl, rfl⟩)
  | (go_at_call 165; (with_reducible refine (acas64 _ _ _ _ _ (by assumption) (by assumption)).mono ?_); rintro e w1 ⟨rfl, rfl⟩))
 go_ret
 exact ⟨rfl, rfl⟩
theorem add_broken (L o : Nat) (n most reason : Int) (w : World) (hbr : w.cell? ⟨L, 7, none⟩ = some (.int .u32 1)) :
 Calls Tryz.prog 164 #[Y (some ⟨L, 0, none⟩), Y (some ⟨L, o, none⟩), J I n, J I most, J I reason] w fun e w' => e = .returned (.bool false) ∧ w = w' := by
 go_enter Tryz.func164, Tryz.ntmps164
 go_wp2
 refine wp_loop_rounds 1 ?_
 rw [rounds_succ]
 go_wp2_with (first
  | (go_at_call 31; (with_reducible refine (bload_t _ _ _ (by assumption)).mono ?_); rintro e w1 ⟨rfl, rfl⟩))
 go_ret
 exact ⟨rfl, rfl⟩
theorem work_ok (L : Nat) (n most was : Int) (w : World) (hbr : w.cell? ⟨L, 7, none⟩ = some (.int .u32 0)) (hm : w.cell? ⟨L, 3, none⟩ = some (J I most)) (hc : w.cell? ⟨L, 6, none⟩ = some (J I was)) (hz : w.frozen? ⟨L, 6, none⟩ = false)
 (h0 : 0 ≤ n) (h1 : n ≤ most - was) (h2 : 0 ≤ was) (h3 : was ≤ most) (h4 : most ≤ 9223372036854775807) :
 Calls Tryz.prog 148 #[Y (some ⟨L, 0, none⟩), J I n] w fun e w' => e = .returned (.bool true) ∧ ∃ k, (w.drewN k).setCell ⟨L, 6, none⟩ (J I (was + n)) = w' := by
 have HA := Hi (fun k => add_ok L 6 n most 3 was (w.drewN k) (by rw [World.cell?_drewN]; exact hbr) (by rw [World.cell?_drewN]; exact hc) (by rw [World.frozen?_drewN]; exact hz) h0 h1 h2 h3 h4)
 clear h0 h1 h2 h3 h4
 go_enter Tryz.func148, Tryz.ntmps148
 go_wp2
 go_still_tail 10, (by kernel_rfl)
 rw [show (⟨w.heap, w.tape, w.drawn + 1, w.os, w.output⟩ : World) = w.drewN 1 from rfl]
 go_wp2_with (go_at_call 164; (with_reducible refine (HA.out 1).mono ?_); rintro e w1 ⟨rfl, rfl⟩)
 go_ret
 exact ⟨rfl, 1, rfl⟩
theorem c_disable (w : World) : (callFunc 213 #[]).run Tryz.prog w = .ok (.value (.tuple #[])) w := run_call_mark0 Tryz.func213 (by kernel_rfl) (by kernel_rfl) (by kernel_rfl) .disable (by kernel_rfl) w
theorem c_enable (w : World) : (callFunc 215 #[]).run Tryz.prog w = .ok (.value (.tuple #[])) w := run_call_mark0 Tryz.func215 (by kernel_rfl) (by kernel_rfl) (by kernel_rfl) .enable (by kernel_rfl) w
theorem c_acquire (a : Addr) (w : World) : (callFunc 216 #[.pointer (some a)]).run Tryz.prog w = .ok (.value (.tuple #[])) w := run_call_marked Tryz.func216 (by kernel_rfl) (by kernel_rfl) (by kernel_rfl) .acquire (by kernel_rfl) a w
theorem c_release (a : Addr) (w : World) : (callFunc 218 #[.pointer (some a)]).run Tryz.prog w = .ok (.value (.tuple #[])) w := run_call_marked Tryz.func218 (by kernel_rfl) (by kernel_rfl) (by kernel_rfl) .releaseMerge (by kernel_rfl) a w
theorem store_deferred (L o : Nat) (x : Value) (u : FrameMode) (w : World) (hc : w.cell? ⟨L, o, none⟩ = some x) (hz : w.frozen? ⟨L, o, none⟩ = false) :
 CallsD Tryz.prog 161 #[Y (some ⟨L, o, none⟩), .bool true] u w fun e u' w' => u' = u ∧ (e = .returned (.tuple #[]) ∧ w' = w.drew.setCell ⟨L, o, none⟩ (.int .u32 1)) := by
 have hc' : w.drew.cell? ⟨L, o, none⟩ = some x := by go_simp
 have hz' : w.drew.frozen? ⟨L, o, none⟩ = false := by go_simp
 have hst := run_call_store (P := Tryz.prog) Tryz.func191 (by kernel_rfl) (by kernel_rfl) (by kernel_rfl) (by kernel_rfl) (k := .u32) (y := 1) hc' hz'
 go_enter_d Tryz.func161, Tryz.ntmps161
 go_wp2
 go_region_calls
 all_goals (go_end0; exact ⟨rfl, rfl⟩)
theorem bstore (L o : Nat) (x : Value) (w : World) (hc : w.cell? ⟨L, o, none⟩ = some x) (hz : w.frozen? ⟨L, o, none⟩ = false) :
 Calls Tryz.prog 161 #[Y (some ⟨L, o, none⟩), .bool true] w fun e w' => e = .returned (.tuple #[]) ∧ w.drew.setCell ⟨L, o, none⟩ (.int .u32 1) = w' := by
 have hc' : w.drew.cell? ⟨L, o, none⟩ = some x := by go_simp
 have hz' : w.drew.frozen? ⟨L, o, none⟩ = false := by go_simp
 have hst := run_call_store (P := Tryz.prog) Tryz.func191 (by kernel_rfl) (by kernel_rfl) (by kernel_rfl) (by kernel_rfl) (k := .u32) (y := 1) hc' hz'
 go_enter Tryz.func161, Tryz.ntmps161
 go_wp2
 go_region_calls
 all_goals (go_end0; exact ⟨rfl, rfl⟩)
theorem unlock_deferred (L o : Nat) (u : FrameMode) (w : World) (hc : w.cell? ⟨L, o, none⟩ = some (.int .i32 1)) (hz : w.frozen? ⟨L, o, none⟩ = false) :
 CallsD Tryz.prog 205 #[Y (some ⟨L, o, none⟩)] u w fun e u' w' => u' = u ∧ (e = .returned (.tuple #[]) ∧ w' = w.setCell ⟨L, o, none⟩ (.int .i32 0)) := by
 have hd := c_disable
 have he := c_enable
 have hr := c_release
 have hadd := run_call_add (P := Tryz.prog) Tryz.func219 (by kernel_rfl) (by kernel_rfl) (by kernel_rfl) .i32 (by kernel_rfl) (y := -1) (s := 0) hc hz (by simp [go_sem]; rfl)
 have hcv := run_convert_to_unsafe (P := Tryz.prog) (src := 277) (dst := 281) Tryz.underlying277 Tryz.underlying281 (by kernel_rfl) hc
 go_enter_d Tryz.func205, Tryz.ntmps205
 go_wp2
 go_end0
 go_wp2
 all_goals (go_end0; exact ⟨rfl, rfl⟩)
theorem lock_free (L o : Nat) (w : World) (hc : w.cell? ⟨L, o, none⟩ = some (.int .i32 0)) (hz : w.frozen? ⟨L, o, none⟩ = false) :
 Calls Tryz.prog 204 #[Y (some ⟨L, o, none⟩)] w fun e w' => e = .returned (.tuple #[]) ∧ w.setCell ⟨L, o, none⟩ (.int .i32 1) = w' := by
 have hd := c_disable
 have he := c_enable
 have ha := c_acquire
 have hcas := run_call_cas_hit (P := Tryz.prog) Tryz.func214 (by kernel_rfl) (by kernel_rfl) (by kernel_rfl) .i32 (by kernel_rfl) (y := 1) hc hz
 have hc' : (w.setCell ⟨L, o, none⟩ (.int .i32 1)).cell? ⟨L, o, none⟩ = some (.int .i32 1) := World.cell?_setCell_same w _ _ hc
 have hcv := run_convert_to_unsafe (P := Tryz.prog) (src := 277) (dst := 281) Tryz.underlying277 Tryz.underlying281 (by kernel_rfl) hc'
 go_enter Tryz.func204, Tryz.ntmps204
 go_wp2
 first | go_end0 | (simp only [Exit.inBlock, Exit.then]; refine bodyPost_ret (results_none rfl _ _ _) rfl ?_) | refine bodyPost_ret (results_none rfl _ _ _) rfl ?_
 go_wp2
 all_goals (go_end0; exact ⟨rfl, rfl⟩)
theorem refuse1 (L Rb Ab Lb : Nat) (r a : Int) (x11 x12 x7 : Value) (w : World) (h11 : w.cell? ⟨L, 11, none⟩ = some x11) (h12 : w.cell? ⟨L, 12, none⟩ = some x12) (h7 : w.cell? ⟨L, 7, none⟩ = some x7)
 (z11 : w.frozen? ⟨L, 11, none⟩ = false) (z12 : w.frozen? ⟨L, 12, none⟩ = false) (z7 : w.frozen? ⟨L, 7, none⟩ = false)
 (hr : w.cell? ⟨Rb, 0, none⟩ = some (J I r)) (ha : w.cell? ⟨Ab, 0, none⟩ = some (J I a)) (hl : w.cell? ⟨Lb, 0, none⟩ = some (Y (some ⟨L, 0, none⟩))) (nr : ¬ Rb = L) (na : ¬ Ab = L) (nl : ¬ Lb = L) :
 Calls Tryz.prog 160 #[Y (some ⟨Rb, 0, none⟩), Y (some ⟨Ab, 0, none⟩), Y (some ⟨Lb, 0, none⟩)] w fun e w' =>
  e = .returned (.tuple #[]) ∧ ((w.setCell ⟨L, 11, none⟩ (J I r)).setCell ⟨L, 12, none⟩ (J I a)).drew.setCell ⟨L, 7, none⟩ (.int .u32 1) = w' := by
 have nr' : ¬ L = Rb := fun h => nr h.symm
 have na' : ¬ L = Ab := fun h => na h.symm
 have nl' : ¬ L = Lb := fun h => nl h.symm
 have hl2 : ((w.setCell ⟨L, 11, none⟩ (J I r)).setCell ⟨L, 12, none⟩ (J I a)).cell? ⟨Lb, 0, none⟩ = some (Y (some ⟨L, 0, none⟩)) := by
  rw [World.cell?_setCell_other _ _ _ _ (fun h => nl' (congrArg Addr.block h)), World.cell?_setCell_other _ _ _ _ (fun h => nl' (congrArg Addr.block h))]; exact hl
 have h72 : ((w.setCell ⟨L, 11, none⟩ (J I r)).setCell ⟨L, 12, none⟩ (J I a)).cell? ⟨L, 7, none⟩ = some x7 := by
  rw [World.cell?_setCell_other _ _ _ _ (by simp), World.cell?_setCell_other _ _ _ _ (by simp)]; exact h7
 go_enter Tryz.func160, Tryz.ntmps160
 go_wp2_with (go_at_call 161; (with_reducible refine (bstore _ _ _ _ h72 (by simp [z7])).mono ?_); rintro e w1 ⟨rfl, rfl⟩)
 go_end0
 exact ⟨rfl, rfl⟩
theorem obj_other {w : World} {L b i o : Nat} {v x : Value} (h : w.cell? ⟨b, o, none⟩ = some x) (hn : ¬ b = L) : (w.setCell ⟨L, i, none⟩ v).cell? ⟨b, o, none⟩ = some x := by
 rw [World.cell?_setCell_other _ _ _ _ (fun h => hn (congrArg Addr.block h).symm)]; exact h
theorem slow_once (L Rb Ab Lb : Nat) (r a : Int) (b0 b1 b2 b3 b4 b5 b6 b10 b11 b12 : Value) (T : TypeId) (w : World)
 (h : Obj1 w L #[b0, b1, b2, b3, b4, b5, b6, .int .u32 0, .int .u32 0, .int .i32 0, b10, b11, b12] T)
 (hr : w.cell? ⟨Rb, 0, none⟩ = some (J I r)) (ha : w.cell? ⟨Ab, 0, none⟩ = some (J I a)) (hl : w.cell? ⟨Lb, 0, none⟩ = some (Y (some ⟨L, 0, none⟩))) (nr : ¬ Rb = L) (na : ¬ Ab = L) (nl : ¬ Lb = L) :
 Calls Tryz.prog 183 #[Y (some ⟨L, 8, none⟩), .func (.func 160) #[] #[Y (some ⟨Rb, 0, none⟩), Y (some ⟨Ab, 0, none⟩), Y (some ⟨Lb, 0, none⟩)]] w fun e w' =>
  e = .returned (.tuple #[]) ∧ (((((w.setCell ⟨L, 9, none⟩ (.int .i32 1)).setCell ⟨L, 11, none⟩ (J I r)).setCell ⟨L, 12, none⟩ (J I a)).drew.setCell ⟨L, 7, none⟩ (.int .u32 1)).drew.setCell ⟨L, 8, none⟩ (.int .u32 1)).setCell ⟨L, 9, none⟩ (.int .i32 0) = w' := by
 have h1 := h.set 9 (.int .i32 1)
 have h2 := ((h1.set 11 (J I r)).set 12 (J I a)).drew.set 7 (.int .u32 1)
 have h3 := h2.drew.set 8 (.int .u32 1)
 have H := Hi h
 have H1 := Hi h1
 have H2 := Hi h2
 have H3 := Hi h3
 have hnot : ∀ (x : Bool) (w : World), (Op.unary .not (.bool x)).run Tryz.prog w = .ok (.bool (!x)) w := fun _ _ => rfl
 have HL := Hi (lock_free L 9 w ((h.cell 9).trans rfl) (h.frozen 9))
 have HB := Hi (bload_f L 8 _ ((h1.cell 8).trans rfl))
 have HC := Hi (refuse1 L Rb Ab Lb r a b11 b12 (.int .u32 0) _ ((h1.cell 11).trans rfl) ((h1.cell 12).trans rfl) ((h1.cell 7).trans rfl) (h1.frozen 11) (h1.frozen 12) (h1.frozen 7) (obj_other hr nr) (obj_other ha na) (obj_other hl nl) nr na nl)
 clear h h1 h2 h3 hr ha hl nr na nl
 go_enter_defers Tryz.func183, Tryz.ntmps183
 go_wp2_with (first
  | (go_at_call 204; (with_reducible refine (HL.out).mono ?_); rintro e w1 ⟨rfl, rfl⟩)
  | (go_at_call 31; (with_reducible refine (HB.out).mono ?_); rintro e w1 ⟨rfl, rfl⟩)
  | (go_at_call 160; (with_reducible refine (HC.out).mono ?_); rintro e w1 ⟨rfl, rfl⟩))
 refine leaves_cons (f := 161) (args := #[Y (some ⟨L, 8, none⟩), .bool true]) (by simp) (by simp [go_sem]) ?_
 refine (store_deferred L 8 (.int .u32 0) .returning _ ((H2.out.cell 8).trans rfl) (H2.out.frozen 8)).mono ?_
 rintro e u' w'' ⟨rfl, rfl, rfl⟩
 refine leaves_cons (f := 205) (args := #[Y (some ⟨L, 9, none⟩)]) (by simp [settle]) (by simp [go_sem]) ?_
 refine (unlock_deferred L 9 _ _ ((H3.out.cell 9).trans rfl) (H3.out.frozen 9)).mono ?_
 rintro e u' w'' ⟨rfl, rfl, rfl⟩
 simp [Leaves, settle, results, Tryz.results183]
def Refused (L : Nat) (r a : Int) (w : World) : World := (((((w.setCell ⟨L, 9, none⟩ (.int .i32 1)).setCell ⟨L, 11, none⟩ (J I r)).setCell ⟨L, 12, none⟩ (J I a)).drew.setCell ⟨L, 7, none⟩ (.int .u32 1)).drew.setCell ⟨L, 8, none⟩ (.int .u32 1)).setCell ⟨L, 9, none⟩ (.int .i32 0)
theorem refused_obj {L : Nat} {r a : Int} {b0 b1 b2 b3 b4 b5 b6 b7 b8 b9 b10 b11 b12 : Value} {T : TypeId} {w : World} (h : Obj1 w L #[b0, b1, b2, b3, b4, b5, b6, b7, b8, b9, b10, b11, b12] T) :
 Obj1 (Refused L r a w) L #[b0, b1, b2, b3, b4, b5, b6, .int .u32 1, .int .u32 1, .int .i32 0, b10, J I r, J I a] T := by
 have := ((((((h.set 9 (.int .i32 1)).set 11 (J I r)).set 12 (J I a)).drew.set 7 (.int .u32 1)).drew.set 8 (.int .u32 1)).set 9 (.int .i32 0))
 simp only [List.setIfInBounds_toArray, List.set_cons_succ, List.set_cons_zero] at this
 exact this
theorem refused_chg (L : Nat) (r a : Int) (w : World) : Chg (· = L) w (Refused L r a w) := by
 unfold Refused
 refine Chg.set ?_ ⟨L, 9, none⟩ _ (Or.inl rfl)
 refine Chg.set (Chg.drew ?_) ⟨L, 8, none⟩ _ (Or.inl rfl)
 refine Chg.set (Chg.drew ?_) ⟨L, 7, none⟩ _ (Or.inl rfl)
 refine Chg.set ?_ ⟨L, 12, none⟩ _ (Or.inl rfl)
 refine Chg.set ?_ ⟨L, 11, none⟩ _ (Or.inl rfl)
 refine Chg.set ?_ ⟨L, 9, none⟩ _ (Or.inl rfl)
 exact Chg.refl _ w
theorem do_once (L Rb Ab Lb : Nat) (r a : Int) (b0 b1 b2 b3 b4 b5 b6 b10 b11 b12 : Value) (T : TypeId) (w : World)
 (h : Obj1 w L #[b0, b1, b2, b3, b4, b5, b6, .int .u32 0, .int .u32 0, .int .i32 0, b10, b11, b12] T)
 (hr : w.cell? ⟨Rb, 0, none⟩ = some (J I r)) (ha : w.cell? ⟨Ab, 0, none⟩ = some (J I a)) (hl : w.cell? ⟨Lb, 0, none⟩ = some (Y (some ⟨L, 0, none⟩))) (nr : ¬ Rb = L) (na : ¬ Ab = L) (nl : ¬ Lb = L) :
 Calls Tryz.prog 146 #[Y (some ⟨L, 8, none⟩), .func (.func 160) #[] #[Y (some ⟨Rb, 0, none⟩), Y (some ⟨Ab, 0, none⟩), Y (some ⟨Lb, 0, none⟩)]] w fun e w' =>
  e = .returned (.tuple #[]) ∧ Obj1 w' L #[b0, b1, b2, b3, b4, b5, b6, .int .u32 1, .int .u32 1, .int .i32 0, b10, J I r, J I a] T ∧ Chg (· = L) w w' := by
 have hnot : ∀ (x : Bool) (w : World), (Op.unary .not (.bool x)).run Tryz.prog w = .ok (.bool (!x)) w := fun _ _ => rfl
 have HB := Hi (bload_f L 8 w ((h.cell 8).trans rfl))
 have HS := Hi ((slow_once L Rb Ab Lb r a _ _ _ _ _ _ _ _ _ _ T w h hr ha hl nr na nl).mono (R' := fun e w' => e = .returned (.tuple #[]) ∧ Refused L r a w = w') fun e w' hh => hh)
 have H := Hi h
 clear h hr ha hl nr na nl
 go_enter Tryz.func146, Tryz.ntmps146
 go_wp2_with (first
  | (go_at_call 31; (with_reducible refine (HB.out).mono ?_); rintro e w1 ⟨rfl, rfl⟩)
  | (go_at_call 183; (with_reducible refine (HS.out).mono ?_); rintro e w1 ⟨rfl, rfl⟩))
 go_end0
 exact ⟨rfl, refused_obj H.out, refused_chg _ _ _ _⟩
theorem refuse_any (L : Nat) (r a : Int) (b0 b1 b2 b3 b4 b5 b6 b10 b11 b12 : Value) (T : TypeId) (w : World)
 (h : Obj1 w L #[b0, b1, b2, b3, b4, b5, b6, .int .u32 0, .int .u32 0, .int .i32 0, b10, b11, b12] T) :
 Calls Tryz.prog 124 #[Y (some ⟨L, 0, none⟩), J I r, J I a] w fun e w' =>
  e = .returned (.bool false) ∧ Obj1 w' L #[b0, b1, b2, b3, b4, b5, b6, .int .u32 1, .int .u32 1, .int .i32 0, b10, J I r, J I a] T ∧ Chg (· = L) w w' := by
 have hmf : ∀ (fn : Fn) (first cap : Array Value) (w : World), (Instr.makeFunc fn first cap).run Tryz.prog w = .ok (.func fn first cap) w := fun _ _ _ _ => rfl
 have hlt := h.lt
 have HD := Hi (fun TP TI => do_once L (w.heap.size + 1) (w.heap.size + 2) w.heap.size r a _ _ _ _ _ _ _ _ _ _ T (((w.alloc (.cells #[Y (some ⟨L, 0, none⟩)] TP)).alloc (.cells #[J I r] TI)).alloc (.cells #[J I a] TI)) (((h.alloc _).alloc _).alloc _) (by simp [go_sem]) (by simp [go_sem]) (by simp [go_sem]) (by omega) (by omega) (by omega))
 clear h
 go_enter Tryz.func124, Tryz.ntmps124
 go_wp2_with (go_at_call 146; (with_reducible refine (HD.out _ _).mono ?_); rintro e w1 ⟨rfl, hO, hC⟩)
 go_ret
 exact ⟨rfl, hO, ((((Chg.refl _ w).alloc _).alloc _).alloc _).trans (hC.mono fun _ _ h => h)⟩
structure Led where
 mw : Int
 mh : Int
 mb : Int
 mx : Int
 bt : Int
 pk : Int
 st : Int
 br : Bool
 rs : Int
 ak : Int
def bi (b : Bool) : Int := if b then 1 else 0
def Led.cells (s : Led) : Array Value := #[J I s.mw, J I s.mh, J I s.mb, J I s.mx, J I s.bt, J I s.pk, J I s.st, .int .u32 (bi s.br), .int .u32 (bi s.br), .int .i32 0, .int .u32 0, J I s.rs, J I s.ak]
structure Led.ok (s : Led) : Prop where
 b0 : 0 ≤ s.bt
 b1 : s.bt ≤ s.mb
 b2 : s.mb ≤ 9223372036854775807
 s0 : 0 ≤ s.st
 s1 : s.st ≤ s.mx
 s2 : s.mx ≤ 9223372036854775807
structure LedAt (w : World) (L : Nat) (s : Led) : Prop where
 obj : Obj1 w L s.cells 86
 ok : s.ok
theorem LedAt.chg {S : Nat → Prop} {w w' : World} {L : Nat} {s : Led} (h : LedAt w L s) (hc : Chg S w w') (hn : ¬ S L) : LedAt w' L s := ⟨hc.obj h.obj hn, h.ok⟩
theorem LedAt.lt {w : World} {L : Nat} {s : Led} (h : LedAt w L s) : L < w.heap.size := h.obj.lt
def Led.refuse (s : Led) (r n : Int) : Led := { s with br := true, rs := r, ak := n }
def Led.work (s : Led) (n : Int) : Led × Bool := if s.br = true then (s, false) else if n < 0 ∨ s.mx - s.st < n then (s.refuse 3 n, false) else ({ s with st := s.st + n }, true)
theorem Led.work_ok {s : Led} (h : s.ok) (n : Int) : (s.work n).1.ok := by
 obtain ⟨a, b, c, d, e, f⟩ := h
 unfold Led.work
 by_cases h1 : s.br = true
 · rw [if_pos h1]; exact ⟨a, b, c, d, e, f⟩
 · rw [if_neg h1]
   by_cases h2 : n < 0 ∨ s.mx - s.st < n
   · rw [if_pos h2]; exact ⟨a, b, c, d, e, f⟩
   · rw [if_neg h2]; exact ⟨a, b, c, by show 0 ≤ s.st + n; omega, by show s.st + n ≤ s.mx; omega, f⟩
theorem add_no (L o : Nat) (n most reason was : Int) (b0 b1 b2 b3 b4 b5 b6 b10 b11 b12 : Value) (T : TypeId) (w : World)
 (h : Obj1 w L #[b0, b1, b2, b3, b4, b5, b6, .int .u32 0, .int .u32 0, .int .i32 0, b10, b11, b12] T) (hc : w.cell? ⟨L, o, none⟩ = some (J I was))
 (h1 : n < 0 ∨ most - was < n) (h2 : 0 ≤ was) (h3 : was ≤ most) (h4 : most ≤ 9223372036854775807) :
 Calls Tryz.prog 164 #[Y (some ⟨L, 0, none⟩), Y (some ⟨L, o, none⟩), J I n, J I most, J I reason] w fun e w' =>
  e = .returned (.bool false) ∧ Obj1 w' L #[b0, b1, b2, b3, b4, b5, b6, .int .u32 1, .int .u32 1, .int .i32 0, b10, J I reason, J I n] T ∧ Chg (· = L) w w' := by
 have HB := Hi (bload_f L 7 w ((h.cell 7).trans rfl))
 have HL := Hi (aload64 L o was w hc)
 have HR := Hi (refuse_any L reason n _ _ _ _ _ _ _ _ _ _ T w h)
 clear h hc
 by_cases hneg : n < 0
 · have G0 : decide (n < 0) = true := by rw [decide_eq_true_iff]; exact hneg
   clear h1
   go_enter Tryz.func164, Tryz.ntmps164
   go_wp2
   refine wp_loop_rounds 1 ?_
   rw [rounds_succ]
   go_wp2_with (first
    | (go_at_call 31; (with_reducible refine (HB.out).mono ?_); rintro e w1 ⟨rfl, rfl⟩)
    | (go_at_call 30; (with_reducible refine (HL.out).mono ?_); rintro e w1 ⟨rfl, rfl⟩)
    | (go_at_call 124; (with_reducible refine (HR.out).mono ?_); rintro e w1 ⟨rfl, hO, hC⟩))
   go_ret
   exact ⟨rfl, hO, hC⟩
 · have G0 : decide (n < 0) = false := by rw [decide_eq_false_iff_not]; exact hneg
   have h1 : most - was < n := by omega
   clear hneg
   go_enter Tryz.func164, Tryz.ntmps164
   go_wp2
   refine wp_loop_rounds 1 ?_
   rw [rounds_succ]
   go_wp2_with (first
    | (go_at_call 31; (with_reducible refine (HB.out).mono ?_); rintro e w1 ⟨rfl, rfl⟩)
    | (go_at_call 30; (with_reducible refine (HL.out).mono ?_); rintro e w1 ⟨rfl, rfl⟩)
    | (go_at_call 124; (with_reducible refine (HR.out).mono ?_); rintro e w1 ⟨rfl, hO, hC⟩))
   go_ret
   exact ⟨rfl, hO, hC⟩
theorem add_led (L : Nat) (s : Led) (n : Int) (w : World) (h : LedAt w L s) : Calls Tryz.prog 164 #[Y (some ⟨L, 0, none⟩), Y (some ⟨L, 6, none⟩), J I n, J I s.mx, J I 3] w fun e w' =>
 e = .returned (.bool (s.work n).2) ∧ LedAt w' L (s.work n).1 ∧ Chg (· = L) w w' := by
 have hk := Led.work_ok h.ok n
 obtain ⟨ho, hok⟩ := h
 by_cases h1 : s.br = true
 · have e1 : s.work n = (s, false) := by unfold Led.work; rw [if_pos h1]
   rw [e1]
   refine (add_broken L 6 n s.mx 3 w ((ho.cell 7).trans (by unfold Led.cells; rw [h1]; rfl))).mono ?_
   rintro e w' ⟨rfl, rfl⟩
   exact ⟨rfl, ⟨ho, hok⟩, Chg.refl _ _⟩
 · have hf : s.br = false := by cases hb : s.br <;> simp_all
   by_cases h2 : n < 0 ∨ s.mx - s.st < n
   · have e1 : s.work n = (s.refuse 3 n, false) := by unfold Led.work; rw [if_neg h1, if_pos h2]
     rw [e1] at hk ⊢
     have ho' : Obj1 w L #[J I s.mw, J I s.mh, J I s.mb, J I s.mx, J I s.bt, J I s.pk, J I s.st, .int .u32 0, .int .u32 0, .int .i32 0, .int .u32 0, J I s.rs, J I s.ak] 86 := by
      have := ho; unfold Led.cells at this; rw [hf] at this; exact this
     refine (add_no L 6 n s.mx 3 s.st _ _ _ _ _ _ _ _ _ _ _ w ho' ((ho.cell 6).trans rfl) h2 hok.s0 hok.s1 hok.s2).mono ?_
     rintro e w' ⟨rfl, hO, hC⟩
     exact ⟨rfl, ⟨hO, hk⟩, hC⟩
   · have e1 : s.work n = ({ s with st := s.st + n }, true) := by unfold Led.work; rw [if_neg h1, if_neg h2]
     rw [e1] at hk ⊢
     refine (add_ok L 6 n s.mx 3 s.st w ((ho.cell 7).trans (by unfold Led.cells; rw [hf]; rfl)) ((ho.cell 6).trans rfl) (ho.frozen 6) (by omega) (by omega) hok.s0 hok.s1 hok.s2).mono ?_
     rintro e w' ⟨rfl, rfl⟩
     exact ⟨rfl, ⟨ho.set 6 _, hk⟩, (Chg.refl _ w).set _ _ (Or.inl rfl)⟩
theorem work_via (L : Nat) (n most : Int) (b : Bool) (R : World → Prop) (w : World) (hm : w.cell? ⟨L, 3, none⟩ = some (J I most))
 (HA : Calls Tryz.prog 164 #[Y (some ⟨L, 0, none⟩), Y (some ⟨L, 6, none⟩), J I n, J I most, J I 3] (w.drewN 1) fun e w' => e = .returned (.bool b) ∧ R w') :
 Calls Tryz.prog 148 #[Y (some ⟨L, 0, none⟩), J I n] w fun e w' => e = .returned (.bool b) ∧ R w' := by
 have HA := Hi HA
 go_enter Tryz.func148, Tryz.ntmps148
 go_wp2
 go_still_tail 10, (by kernel_rfl)
 rw [show (⟨w.heap, w.tape, w.drawn + 1, w.os, w.output⟩ : World) = w.drewN 1 from rfl]
 go_wp2_with (go_at_call 164; (with_reducible refine (HA.out).mono ?_); rintro e w1 ⟨rfl, hR⟩)
 go_ret
 exact ⟨rfl, hR⟩
theorem work_any (L : Nat) (s : Led) (n : Int) (w : World) (h : LedAt w L s) : Calls Tryz.prog 148 #[Y (some ⟨L, 0, none⟩), J I n] w fun e w' =>
 e = .returned (.bool (s.work n).2) ∧ LedAt w' L (s.work n).1 ∧ Chg (· = L) w w' := by
 have h' : LedAt (w.drewN 1) L s := ⟨h.obj.drewN 1, h.ok⟩
 refine work_via L n s.mx (s.work n).2 (fun w' => LedAt w' L (s.work n).1 ∧ Chg (· = L) w w') w ((h.obj.cell 3).trans rfl) ((add_led L s n _ h').mono ?_)
 rintro e w' ⟨rfl, hL, hC⟩
 exact ⟨rfl, hL, ((Chg.refl _ w).drewN 1).trans hC⟩
theorem steps_any (L : Nat) (s : Led) (w : World) (h : LedAt w L s) : Calls Tryz.prog 10 #[Y (some ⟨L, 0, none⟩)] w fun e w' => e = .returned (J I s.st) ∧ w = w' := by
 have HL := Hi (aload64 L 6 s.st w ((h.obj.cell 6).trans rfl))
 have b1 := h.ok.s0
 clear h
 go_enter Tryz.func10, Tryz.ntmps10
 go_wp2_with (go_at_call 30; (with_reducible refine (HL.out).mono ?_); rintro e w1 ⟨rfl, rfl⟩)
 go_ret
 exact ⟨rfl, rfl⟩
theorem broken_any (L : Nat) (s : Led) (w : World) (h : LedAt w L s) : Calls Tryz.prog 11 #[Y (some ⟨L, 0, none⟩)] w fun e w' => e = .returned (.bool s.br) ∧ w = w' := by
 have HL : Calls Tryz.prog 31 #[Y (some ⟨L, 7, none⟩)] w fun e w' => e = .returned (.bool s.br) ∧ w = w' := by
  have hc : w.cell? ⟨L, 7, none⟩ = some (.int .u32 (bi s.br)) := (h.obj.cell 7).trans rfl
  cases hb : s.br
  · rw [hb] at hc; exact bload_f L 7 w hc
  · rw [hb] at hc; exact bload_t L 7 w hc
 have HL := Hi HL
 clear h
 go_enter Tryz.func11, Tryz.ntmps11
 go_wp2_with (go_at_call 31; (with_reducible refine (HL.out).mono ?_); rintro e w1 ⟨rfl, rfl⟩)
 go_ret
 exact ⟨rfl, rfl⟩
def Led.new (mw mh mb mk : Int) : Led := ⟨max mw 0, max mh 0, max mb 0, max mk 0, 0, 0, 0, false, 0, 0⟩
theorem Led.new_ok (mw mh mb mk : Int) (h1 : mb ≤ 9223372036854775807) (h2 : mk ≤ 9223372036854775807) : (Led.new mw mh mb mk).ok := by
 refine ⟨?_, ?_, ?_, ?_, ?_, ?_⟩ <;> simp only [Led.new] <;> omega
theorem obj1_new2 (w : World) (a : Obj) {cs cs' : Array Value} (T : TypeId) (h : cs = cs') : Obj1 ((w.alloc a).alloc (.cells cs T)) (w.heap.size + 1) cs' T := by
 subst h; have := aA (w.alloc a) cs T; simpa using this
theorem lnew_any (mw mh mb mk : Int) (w : World) (h1 : mb ≤ 9223372036854775807) (h2 : mk ≤ 9223372036854775807) : Calls Tryz.prog 20 #[.agg #[J I mw, J I mh, J I mb, J I mk]] w fun e w' =>
 ∃ L, e = .returned (Y (some ⟨L, 0, none⟩)) ∧ LedAt w' L (Led.new mw mh mb mk) ∧ w.heap.size ≤ L ∧ Chg (fun _ => False) w w' := by
 have hk := Led.new_ok mw mh mb mk h1 h2
 have HK := Hi hk
 clear hk h1 h2
 go_enter Tryz.func20, Tryz.ntmps20
 go_wp2
 all_goals
  go_ret
  exact ⟨w.heap.size + 1, rfl, ⟨obj1_new2 _ _ _ (by simp [Led.cells, Led.new, bi]; omega), HK.out⟩, by omega, ((Chg.refl _ w).alloc _).alloc _⟩
structure Sr where
 L : Nat
 s : ByteArray
 b : Nat
 e : Nat
 p : Nat
def Sr.cells (x : Sr) : Array Value := #[Y (some ⟨x.L, 0, none⟩), .string x.s, J I x.b, J I x.e, J I x.p]
structure Sr.ok (x : Sr) : Prop where
 bp : x.b ≤ x.p
 pe : x.p ≤ x.e
 es : x.e ≤ x.s.size
 sz : x.s.size ≤ 9223372036854775807
structure SrcAt (w : World) (X : Nat) (x : Sr) : Prop where
 obj : Obj1 w X x.cells 119
 ok : x.ok
 ne : X ≠ x.L
theorem SrcAt.chg {S : Nat → Prop} {w w' : World} {X : Nat} {x : Sr} (h : SrcAt w X x) (hc : Chg S w w') (hn : ¬ S X) : SrcAt w' X x := ⟨hc.obj h.obj hn, h.ok, h.ne⟩
theorem SrcAt.lt {w : World} {X : Nat} {x : Sr} (h : SrcAt w X x) : X < w.heap.size := h.obj.lt
theorem SrcAt.c0 {w : World} {X : Nat} {x : Sr} (h : SrcAt w X x) : w.cell? ⟨X, 0, none⟩ = some (Y (some ⟨x.L, 0, none⟩)) := (h.obj.cell 0).trans rfl
theorem SrcAt.c1 {w : World} {X : Nat} {x : Sr} (h : SrcAt w X x) : w.cell? ⟨X, 1, none⟩ = some (.string x.s) := (h.obj.cell 1).trans rfl
theorem SrcAt.c2 {w : World} {X : Nat} {x : Sr} (h : SrcAt w X x) : w.cell? ⟨X, 2, none⟩ = some (J I x.b) := (h.obj.cell 2).trans rfl
theorem SrcAt.c3 {w : World} {X : Nat} {x : Sr} (h : SrcAt w X x) : w.cell? ⟨X, 3, none⟩ = some (J I x.e) := (h.obj.cell 3).trans rfl
theorem SrcAt.c4 {w : World} {X : Nat} {x : Sr} (h : SrcAt w X x) : w.cell? ⟨X, 4, none⟩ = some (J I x.p) := (h.obj.cell 4).trans rfl
theorem SrcAt.f4 {w : World} {X : Nat} {x : Sr} (h : SrcAt w X x) : w.frozen? ⟨X, 4, none⟩ = false := h.obj.frozen 4
theorem SrcAt.drewN {w : World} {X : Nat} {x : Sr} (h : SrcAt w X x) (n : Nat) : SrcAt (w.drewN n) X x := ⟨h.obj.drewN n, h.ok, h.ne⟩
theorem LedAt.drewN {w : World} {X : Nat} {x : Led} (h : LedAt w X x) (n : Nat) : LedAt (w.drewN n) X x := ⟨h.obj.drewN n, h.ok⟩
theorem SrcAt.put {w : World} {X : Nat} {x : Sr} (h : SrcAt w X x) (p : Nat) (h1 : x.b ≤ p) (h2 : p ≤ x.e) : SrcAt (w.setCell ⟨X, 4, none⟩ (J I p)) X { x with p := p } := ⟨h.obj.set 4 _, ⟨h1, h2, h.ok.es, h.ok.sz⟩, h.ne⟩
theorem SrcAt.put' {w : World} {X : Nat} {x : Sr} (h : SrcAt w X x) (v : Int) (p : Nat) (hv : v = p) (h1 : x.b ≤ p) (h2 : p ≤ x.e) : SrcAt (w.setCell ⟨X, 4, none⟩ (J I v)) X { x with p := p } := by subst hv; exact h.put p h1 h2
theorem LedAt.put {w : World} {L X i : Nat} {l : Led} (h : LedAt w L l) (v : Value) (hn : L ≠ X) : LedAt (w.setCell ⟨X, i, none⟩ v) L l := ⟨h.obj.set_other _ _ hn, h.ok⟩
structure Pair (w : World) (X : Nat) (x : Sr) (l : Led) : Prop where
 src : SrcAt w X x
 led : LedAt w x.L l
abbrev two (X : Nat) (x : Sr) (k : Nat) : Prop := k = X ∨ k = x.L
theorem left_any (X : Nat) (x : Sr) (w : World) (h : SrcAt w X x) : Calls Tryz.prog 123 #[Y (some ⟨X, 0, none⟩)] w fun e w' => e = .returned (J I ((x.e : Int) - x.p)) ∧ ∃ k, w.drewN k = w' := by
 have k3 := h.c3
 have k4 := h.c4
 obtain ⟨-, ⟨h1, h2, h3, h4⟩, -⟩ := h
 have e1 : IntKind.i64.wrap ((x.e : Int) - x.p) = (x.e : Int) - x.p := i64_wrap_id _ (by omega) (by omega)
 go_enter Tryz.func123, Tryz.ntmps123
 go_wp2
 go_quiet (fail)
 go_wp2
 go_ret
 exact ⟨rfl, _, rfl⟩
def Sr.next (x : Sr) (l : Led) (n : Int) : (Sr × Led) × (ByteArray × Bool) :=
 if (l.work 1).2 = true ∧ 0 ≤ n ∧ n ≤ (x.e : Int) - x.p then (({ x with p := x.p + n.toNat }, (l.work 1).1), (x.s.extract x.p (x.p + n.toNat), true)) else ((x, (l.work 1).1), (ByteArray.empty, false))
def NextPost (w : World) (X : Nat) (x : Sr) (r : (Sr × Led) × (ByteArray × Bool)) (e : Ending) (w' : World) : Prop :=
 e = .returned (.tuple #[.string r.2.1, .bool r.2.2]) ∧ Pair w' X r.1.1 r.1.2 ∧ Chg (two X x) w w'
theorem work_two {X : Nat} {x : Sr} {l l' : Led} {w w' : World} (h : Pair w X x l) (hl : LedAt w' x.L l') (hc : Chg (· = x.L) w w') : Pair w' X x l' ∧ Chg (two X x) w w' :=
 ⟨⟨h.src.chg hc h.src.ne, hl⟩, hc.mono fun k _ e => Or.inr e⟩
theorem two_left {X : Nat} {x : Sr} {l : Led} {w w' : World} {k : Nat} (h : Pair w X x l) (e : w.drewN k = w') : Pair w' X x l ∧ Chg (two X x) w w' := by
 subst e; exact ⟨⟨h.src.drewN k, h.led.drewN k⟩, (Chg.refl _ w).drewN k⟩
theorem next_no (X : Nat) (x : Sr) (l : Led) (n : Int) (w : World) (h : Pair w X x l) (hn : ¬ ((l.work 1).2 = true ∧ 0 ≤ n ∧ n ≤ (x.e : Int) - x.p)) :
 Calls Tryz.prog 96 #[Y (some ⟨X, 0, none⟩), J I n] w (NextPost w X x ((x, (l.work 1).1), (ByteArray.empty, false))) := by
 have k0 := h.src.c0
 have HW := Hi (work_any x.L l 1 w h.led)
 have H := Hi h
 obtain ⟨ok, hok⟩ : ∃ ok, (l.work 1).2 = ok := ⟨_, rfl⟩
 rw [hok] at hn HW
 clear hok h
 cases ok with
 | false =>
   clear hn
   go_enter Tryz.func96, Tryz.ntmps96
   go_wp2_with (go_at_call 148; (with_reducible refine (HW.out).mono ?_); rintro e w1 ⟨rfl, hL1, hC1⟩)
   go_ret2
   obtain ⟨p1, p2⟩ := work_two H.out hL1 hC1
   exact ⟨rfl, p1, p2⟩
 | true =>
   have hn : n < 0 ∨ (0 ≤ n ∧ (x.e : Int) - x.p < n) := by have := hn; simp at this; omega
   rcases hn with hn | ⟨h0, hn⟩
   · have G0 : decide (n < 0) = true := by rw [decide_eq_true_iff]; exact hn
     go_enter Tryz.func96, Tryz.ntmps96
     go_wp2_with (go_at_call 148; (with_reducible refine (HW.out).mono ?_); rintro e w1 ⟨rfl, hL1, hC1⟩)
     go_ret2
     obtain ⟨p1, p2⟩ := work_two H.out hL1 hC1
     exact ⟨rfl, p1, p2⟩
   · have G0 : decide (n < 0) = false := by rw [decide_eq_false_iff_not]; omega
     obtain ⟨d, hd⟩ : ∃ d, (x.e : Int) - x.p = d := ⟨_, rfl⟩
     have HLf := Hi (fun w0 (h0 : SrcAt w0 X x) => (left_any X x w0 h0).mono (R' := fun e w' => e = .returned (J I d) ∧ ∃ k, w0.drewN k = w') fun e w' hh => by rw [hd] at hh; exact hh)
     rw [hd] at hn
     clear hd
     go_enter Tryz.func96, Tryz.ntmps96
     go_wp2_with (first
      | (go_at_call 148; (with_reducible refine (HW.out).mono ?_); rintro e w1 ⟨rfl, hL1, hC1⟩)
      | (go_at_call 123; (with_reducible refine (HLf.out _ (work_two H.out hL1 hC1).1.src).mono ?_); rintro e w2 ⟨rfl, hk2⟩))
     go_ret2
     obtain ⟨p1, p2⟩ := work_two H.out hL1 hC1
     obtain ⟨k, hk⟩ := hk2
     obtain ⟨q1, q2⟩ := two_left p1 hk
     exact ⟨rfl, q1, p2.trans q2⟩
theorem next_yes (X : Nat) (x : Sr) (l : Led) (n : Nat) (w : World) (h : Pair w X x l) (hok : (l.work 1).2 = true) (hn : n ≤ x.e - x.p) :
 Calls Tryz.prog 96 #[Y (some ⟨X, 0, none⟩), J I n] w (NextPost w X x (({ x with p := x.p + n }, (l.work 1).1), (x.s.extract x.p (x.p + n), true))) := by
 have k0 := h.src.c0
 have hpe := h.src.ok.pe
 have hes := h.src.ok.es
 have hsz := h.src.ok.sz
 have HW := Hi (work_any x.L l 1 w h.led)
 have H := Hi h
 rw [hok] at HW
 clear hok h
 have G0 : decide ((n : Int) < 0) = false := by rw [decide_eq_false_iff_not]; omega
 obtain ⟨d, hd⟩ : ∃ d, (x.e : Int) - x.p = d := ⟨_, rfl⟩
 have HLf := Hi (fun w0 (h0 : SrcAt w0 X x) => (left_any X x w0 h0).mono (R' := fun e w' => e = .returned (J I d) ∧ ∃ k, w0.drewN k = w') fun e w' hh => by rw [hd] at hh; exact hh)
 have hnd : (n : Int) ≤ d := by omega
 have G1 : decide ((n : Int) > d) = false := by rw [decide_eq_false_iff_not]; omega
 clear hd
 go_enter Tryz.func96, Tryz.ntmps96
 go_wp2_with (first
  | (go_at_call 148; (with_reducible refine (HW.out).mono ?_); rintro e w1 ⟨rfl, hL1, hC1⟩)
  | (go_at_call 123; (with_reducible refine (HLf.out _ (work_two H.out hL1 hC1).1.src).mono ?_); rintro e w2 ⟨rfl, hk2⟩))
 obtain ⟨p1, p2⟩ := work_two H.out hL1 hC1
 obtain ⟨k, hk⟩ := hk2
 obtain ⟨q1, q2⟩ := two_left p1 hk
 have Q1 := Hi q1
 have Q2 := Hi (p2.trans q2)
 have c0 := q1.src.c0
 have c1 := q1.src.c1
 have c4 := q1.src.c4
 have f4 := q1.src.f4
 have e0 : IntKind.i64.wrap ((x.p : Int) + n) = (x.p : Int) + n := i64_wrap_id _ (by omega) (by omega)
 have e1 : ((x.p : Int) + n).toNat = x.p + n := by omega
 have b0 : (0 : Int) ≤ (x.p : Int) := by omega
 have b1 : (x.p : Int) ≤ (x.p : Int) + n := by omega
 have b2 : (x.p : Int) + n ≤ (x.s.size : Int) := by omega
 clear hk q1 q2 p1 p2 hC1 hL1
 go_quiet (fail)
 clear e0 e1
 go_wp2
 go_ret2
 exact ⟨rfl, ⟨(Q1.out.src.drewN _).put' _ (x.p + n) (by omega) (by have := Q1.out.src.ok.bp; omega) (by omega), (Q1.out.led.drewN _).put _ (fun e => Q1.out.src.ne e.symm)⟩, (Q2.out.drewN _).set _ _ (Or.inl (Or.inl rfl))⟩
theorem next_any (X : Nat) (x : Sr) (l : Led) (n : Int) (w : World) (h : Pair w X x l) : Calls Tryz.prog 96 #[Y (some ⟨X, 0, none⟩), J I n] w (NextPost w X x (x.next l n)) := by
 unfold Sr.next
 by_cases hc : (l.work 1).2 = true ∧ 0 ≤ n ∧ n ≤ (x.e : Int) - x.p
 · rw [if_pos hc]
   obtain ⟨h1, h2, h3⟩ := hc
   obtain ⟨n, rfl⟩ := Int.eq_ofNat_of_zero_le h2
   exact next_yes X x l n w h h1 (by omega)
 · rw [if_neg hc]
   exact next_no X x l n w h hc
/-! ### plain readers -/
theorem at_any (X : Nat) (x : Sr) (w : World) (h : SrcAt w X x) : Calls Tryz.prog 23 #[Y (some ⟨X, 0, none⟩)] w fun e w' => e = .returned (J I x.p) ∧ w = w' := by
 have k := h.c4
 clear h
 go_enter Tryz.func23, Tryz.ntmps23
 go_wp2
 go_ret
 exact ⟨rfl, rfl⟩
theorem to_any (X : Nat) (x : Sr) (w : World) (h : SrcAt w X x) : Calls Tryz.prog 28 #[Y (some ⟨X, 0, none⟩)] w fun e w' => e = .returned (J I x.e) ∧ w = w' := by
 have k := h.c3
 clear h
 go_enter Tryz.func28, Tryz.ntmps28
 go_wp2
 go_ret
 exact ⟨rfl, rfl⟩
theorem take_any (X : Nat) (x : Sr) (l : Led) (n : Int) (w : World) (h : Pair w X x l) : Calls Tryz.prog 57 #[Y (some ⟨X, 0, none⟩), J I n] w (NextPost w X x (x.next l n)) := by
 have HN := Hi (next_any X x l n w h)
 obtain ⟨⟨⟨y, m⟩, s, ok⟩, hr⟩ : ∃ r, x.next l n = r := ⟨_, rfl⟩
 rw [hr] at HN ⊢
 clear h hr
 go_enter Tryz.func57, Tryz.ntmps57
 go_wp2_with (go_at_call 96; (with_reducible refine (HN.out).mono ?_); rintro e w1 ⟨rfl, hP, hC⟩)
 go_ret2
 exact ⟨rfl, hP, hC⟩
def BoolPost (w : World) (X : Nat) (x y : Sr) (m : Led) (ok : Bool) (e : Ending) (w' : World) : Prop := e = .returned (.bool ok) ∧ Pair w' X y m ∧ Chg (two X x) w w'
theorem skip_any (X : Nat) (x : Sr) (l : Led) (n : Int) (w : World) (h : Pair w X x l) : Calls Tryz.prog 128 #[Y (some ⟨X, 0, none⟩), J I n] w (BoolPost w X x (x.next l n).1.1 (x.next l n).1.2 (x.next l n).2.2) := by
 have HN := Hi (next_any X x l n w h)
 obtain ⟨⟨⟨y, m⟩, s, ok⟩, hr⟩ : ∃ r, x.next l n = r := ⟨_, rfl⟩
 rw [hr] at HN ⊢
 clear h hr
 go_enter Tryz.func128, Tryz.ntmps128
 go_wp2_with (go_at_call 96; (with_reducible refine (HN.out).mono ?_); rintro e w1 ⟨rfl, hP, hC⟩)
 go_ret
 exact ⟨rfl, hP, hC⟩
def Sr.seek (x : Sr) (n : Int) : Sr × Bool := if n < x.b ∨ (x.e : Int) < n then (x, false) else ({ x with p := n.toNat }, true)
theorem seek_any (X : Nat) (x : Sr) (l : Led) (n : Int) (w : World) (h : Pair w X x l) : Calls Tryz.prog 106 #[Y (some ⟨X, 0, none⟩), J I n] w (BoolPost w X x (x.seek n).1 l (x.seek n).2) := by
 have k2 := h.src.c2
 have k3 := h.src.c3
 have k4 := h.src.c4
 have f4 := h.src.f4
 have H := Hi h
 clear h
 unfold Sr.seek
 by_cases h1 : n < x.b
 · rw [if_pos (Or.inl h1)]
   have G0 : decide (n < (x.b : Int)) = true := by rw [decide_eq_true_iff]; exact h1
   go_enter Tryz.func106, Tryz.ntmps106
   go_wp2
   go_ret
   exact ⟨rfl, H.out, Chg.refl _ _⟩
 · have G0 : decide (n < (x.b : Int)) = false := by rw [decide_eq_false_iff_not]; exact h1
   by_cases h2 : (x.e : Int) < n
   · rw [if_pos (Or.inr h2)]
     have G1 : decide (n > (x.e : Int)) = true := by rw [decide_eq_true_iff]; exact h2
     go_enter Tryz.func106, Tryz.ntmps106
     go_wp2
     go_ret
     exact ⟨rfl, H.out, Chg.refl _ _⟩
   · rw [if_neg (by omega)]
     have G1 : decide (n > (x.e : Int)) = false := by rw [decide_eq_false_iff_not]; exact h2
     go_enter Tryz.func106, Tryz.ntmps106
     go_wp2
     go_ret
     exact ⟨rfl, ⟨H.out.src.put' n n.toNat (by omega) (by omega) (by omega), H.out.led.put _ (fun e => H.out.src.ne e.symm)⟩, (Chg.refl _ _).set _ _ (Or.inl (Or.inl rfl))⟩
theorem snew_any (L : Nat) (s : ByteArray) (w : World) (hs : s.size ≤ 9223372036854775807) (hL : L < w.heap.size) : Calls Tryz.prog 21 #[Y (some ⟨L, 0, none⟩), .string s] w fun e w' =>
 ∃ X, e = .returned (.tuple #[Y (some ⟨X, 0, none⟩), J I 0]) ∧ SrcAt w' X ⟨L, s, 0, s.size, 0⟩ ∧ w.heap.size ≤ X ∧ Chg (fun _ => False) w w' := by
 go_enter Tryz.func21, Tryz.ntmps21
 go_wp2
 go_ret2
 exact ⟨w.heap.size, rfl, ⟨aA _ _ _, ⟨Nat.le_refl _, Nat.zero_le _, Nat.le_refl _, hs⟩, by show w.heap.size ≠ L; omega⟩, Nat.le_refl _, (Chg.refl _ _).alloc _⟩
def Sr.fault (x : Sr) (l : Led) (f : Int) : Value := if l.br = true then .agg #[J I 4, J I f, J I x.p] else .agg #[J I 1, J I f, J I x.e]
theorem fault_any (X : Nat) (x : Sr) (l : Led) (f : Int) (w : World) (h : Pair w X x l) : Calls Tryz.prog 37 #[Y (some ⟨X, 0, none⟩), J I f] w fun e w' => e = .returned (x.fault l f) ∧ Below w.heap.size w w' := by
 have k0 := h.src.c0
 have k3 := h.src.c3
 have k4 := h.src.c4
 have hlt := h.src.lt
 have HL := Hi (fun T => broken_any x.L l (w.alloc (.cells #[J I 0, J I 0, J I 0] T)) ⟨h.led.obj.alloc _, h.led.ok⟩)
 unfold Sr.fault
 obtain ⟨b, hb⟩ : ∃ b, l.br = b := ⟨_, rfl⟩
 rw [hb] at HL ⊢
 clear h hb
 cases b
 · go_enter Tryz.func37, Tryz.ntmps37
   go_wp2_with (go_at_call 11; (with_reducible refine (HL.out _).mono ?_); rintro e w1 ⟨rfl, rfl⟩)
   refine bodyPost_ret (v := .agg #[J I 1, J I f, J I x.e]) (by simp [results, Tryz.results37, go_sem]) rfl ⟨rfl, ?_⟩
   exact (Below.refl _ _).alloc (Nat.le_refl _) _
 · go_enter Tryz.func37, Tryz.ntmps37
   go_wp2_with (go_at_call 11; (with_reducible refine (HL.out _).mono ?_); rintro e w1 ⟨rfl, rfl⟩)
   refine bodyPost_ret (v := .agg #[J I 4, J I f, J I x.p]) (by simp [results, Tryz.results37, go_sem]) rfl ⟨rfl, ?_⟩
   exact (Below.refl _ _).alloc (Nat.le_refl _) _
end Go.Proofs.YtfchnibjjokmbaaGreat

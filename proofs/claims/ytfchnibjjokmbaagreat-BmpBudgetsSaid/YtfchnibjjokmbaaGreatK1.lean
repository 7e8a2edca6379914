/- Parts. -/
import Derived.Test.YtfchnibjjokmbaaGreatK0
import Derived.Lib.EndianBits
import Derived.Deep.RegionHeld3
import Derived.StillTail
import Derived.Deep.Quiet
import Derived.Deep.CutRange
import Derived.Lib.BufferWrite
set_option linter.all false
set_option maxRecDepth 100000
set_option maxHeartbeats 16000000
open Go.Value renaming int → J, pointer → Y
open Go.IntKind renaming i64 → I, u8 → U
namespace Go.Proofs.YtfchnibjjokmbaaGreat
open Go.RowKit
def aG (s : ByteArray) (i : Nat) : Int := (s.data.toList.getD i 0).toNat
theorem aS (s : ByteArray) (i : Nat) : 0 ≤ aG s i ∧ aG s i < 256 := by
 unfold aG; have := (s.data.toList.getD i 0).toNat_lt; omega
theorem aX (s : ByteArray) (i : Nat) (h : i < s.size) : ((s[i]).toNat : Int) = aG s i := by
 unfold aG
 rw [List.getD_eq_getElem?_getD, List.getElem?_eq_getElem (by simpa using h)]
 rfl
def loK (s : ByteArray) : Nat → Int
 | 0 => 0
 | k + 1 => loK s k + aG s k * 2 ^ (8 * k)
def hiK (s : ByteArray) : Nat → Int
 | 0 => 0
 | k + 1 => hiK s k * 256 + aG s k
theorem pow8 (k : Nat) : (2 : Int) ^ (8 * (k + 1)) = 256 * 2 ^ (8 * k) := by
 rw [show 8 * (k + 1) = 8 * k + 8 by omega, Int.pow_add]; have : (2 : Int) ^ 8 = 256 := by decide
 rw [this, Int.mul_comm]
theorem loK_bd (s : ByteArray) (k : Nat) : 0 ≤ loK s k ∧ loK s k < 2 ^ (8 * k) := by
 induction k with
 | zero => simp [loK]
 | succ k ih =>
   have hb := aS s k
   have hp := pow_pos' (8 * k)
   have h0 : 0 ≤ aG s k * 2 ^ (8 * k) := Int.mul_nonneg hb.1 (by omega)
   have h1 : aG s k * 2 ^ (8 * k) ≤ 255 * 2 ^ (8 * k) := Int.mul_le_mul_of_nonneg_right (by omega) (by omega)
   rw [pow8, loK]; omega
theorem hiK_bd (s : ByteArray) (k : Nat) : 0 ≤ hiK s k ∧ hiK s k < 2 ^ (8 * k) := by
 induction k with
 | zero => simp [hiK]
 | succ k ih =>
   have hb := aS s k
   rw [pow8, hiK]; omega
theorem aF (n : Int) (h₀ : 0 ≤ n) (h₁ : n < 2 ^ 63) : IntKind.i64.wrap n = n := i64_wrap_id n h₀ h₁
theorem or_low (i : Nat) (v y : Int) (h0 : 0 ≤ v) (h1 : v < 2 ^ i) (hy : 0 ≤ y) (h2 : v + y * 2 ^ i < 2 ^ 62) : bits .or .i64 v (y * 2 ^ i) = v + y * 2 ^ i := by
 have hp := pow_pos' i
 have hm := Int.mul_nonneg hy (Int.le_of_lt hp)
 have h63 : (2 : Int) ^ 63 = 9223372036854775808 := by decide
 have h62 : (2 : Int) ^ 62 = 4611686018427387904 := by decide
 exact bits_join_low .i64 63 (by decide) aF i v _ h0 h1 (by omega) hm (Int.mul_emod_left _ _) (by omega)
theorem or_high (i : Nat) (v y : Int) (h0 : 0 ≤ v) (h1 : v < 2 ^ i) (hy : 0 ≤ y) (h2 : v + y * 2 ^ i < 2 ^ 62) : bits .or .i64 (y * 2 ^ i) v = y * 2 ^ i + v := by
 have hp := pow_pos' i
 have hm := Int.mul_nonneg hy (Int.le_of_lt hp)
 have h63 : (2 : Int) ^ 63 = 9223372036854775808 := by decide
 have h62 : (2 : Int) ^ 62 = 4611686018427387904 := by decide
 exact bits_join .i64 63 (by decide) aF i _ v hm (Int.mul_emod_left _ _) (by omega) h0 h1 (by omega)
theorem pow32 (k : Nat) (h : k ≤ 3) : (1 : Int) ≤ 2 ^ (8 * k) ∧ (2 : Int) ^ (8 * k) ≤ 16777216 := by
 have h1 := pow_pos' (8 * k)
 have h2 := pow_le' (show 8 * k ≤ 24 by omega)
 have h3 : (2 : Int) ^ 24 = 16777216 := by decide
 omega
theorem lo_round (s : ByteArray) (k : Nat) (h : k ≤ 3) : bits .or .i64 (loK s k) (wrap64 (wrap64 (aG s k) * 2 ^ (8 * k))) = loK s (k + 1) := by
 have hb := aS s k
 have hl := loK_bd s k
 have hp := pow32 k h
 have h0 : 0 ≤ aG s k * 2 ^ (8 * k) := Int.mul_nonneg hb.1 (by omega)
 have h1 : aG s k * 2 ^ (8 * k) ≤ 255 * 2 ^ (8 * k) := Int.mul_le_mul_of_nonneg_right (by omega) (by omega)
 have h62 : (2 : Int) ^ 62 = 4611686018427387904 := by decide
 rw [IntWalk.wrap64_in (aG s k) (by omega), IntWalk.wrap64_in _ (by omega), or_low (8 * k) _ _ hl.1 hl.2 hb.1 (by omega)]
 rfl
theorem number_lo' (s : ByteArray) (w : World) (hs : s.size ≤ 4) : Calls Tryz.prog 208 #[.string s, .bool true] w fun e w' => e = .returned (J I (loK s s.size)) ∧ w = w' := by
 go_enter Tryz.func208, Tryz.ntmps208
 go_wp2
 go_loop [5, 6, 9] (fun v j i => ∃ k : Nat, k ≤ s.size ∧ i = J I k ∧ v = J I (loK s k)) (fun _ _ i => s.size - (intOf i).toNat)
 case atStart => exact ⟨0, by omega, rfl, rfl⟩
 case round =>
  obtain ⟨k, hk, rfl, rfl⟩ := hrel
  by_cases hlt : k < s.size
  · go_wp2
    go_round
    case rel => exact ⟨k + 1, by omega, by go_num, by rw [aX s k hlt, lo_round s k (by omega)]⟩
    case measure => simp [intOf]; omega
  · have E := Hi (show loK s k = loK s s.size by rw [show k = s.size by omega])
    have hge : s.size ≤ k := by omega
    go_wp2
    go_ret
    exact ⟨ret_int E.out, rfl⟩
theorem hi_round (s : ByteArray) (k : Nat) (h : k ≤ 3) : bits .or .i64 (hiK s k * 256) (wrap64 (aG s k)) = hiK s (k + 1) := by
 have hb := aS s k
 have hl := hiK_bd s k
 have hp := pow32 k h
 have h62 : (2 : Int) ^ 62 = 4611686018427387904 := by decide
 have h8 : (2 : Int) ^ 8 = 256 := by decide
 have := or_high 8 (aG s k) (hiK s k) hb.1 (by omega) hl.1 (by omega)
 rw [h8] at this
 rw [IntWalk.wrap64_in (aG s k) (by omega), this]; rfl
theorem number_hi' (s : ByteArray) (w : World) (hs : s.size ≤ 4) : Calls Tryz.prog 208 #[.string s, .bool false] w fun e w' => e = .returned (J I (hiK s s.size)) ∧ w = w' := by
 go_enter Tryz.func208, Tryz.ntmps208
 go_wp2
 go_loop [5, 6, 9] (fun v j i => ∃ k : Nat, k ≤ s.size ∧ i = J I k ∧ v = J I (hiK s k)) (fun _ _ i => s.size - (intOf i).toNat)
 case atStart => exact ⟨0, by omega, rfl, rfl⟩
 case round =>
  obtain ⟨k, hk, rfl, rfl⟩ := hrel
  have hl := hiK_bd s k
  by_cases hlt : k < s.size
  · have hp := pow32 k (by omega)
    obtain ⟨l0, l1⟩ := hl
    have l2 : hiK s k ≤ 16777216 := by omega
    clear l1 hp
    go_wp2
    go_round
    case rel => exact ⟨k + 1, by omega, by go_num, by rw [aX s k hlt, hi_round s k (by omega)]⟩
    case measure => simp [intOf]; omega
  · have E := Hi (show hiK s k = hiK s s.size by rw [show k = s.size by omega])
    have hge : s.size ≤ k := by omega
    clear hl
    go_wp2
    go_ret
    exact ⟨ret_int E.out, rfl⟩
/-! ### the document's numbers -/
theorem rle_any (s : ByteArray) (w : World) (hs : s.size ≤ 4) : Calls Tryz.prog 49 #[.string s] w fun e w' => e = .returned (J I (loK s s.size)) ∧ w = w' := by
 go_enter Tryz.func49, Tryz.ntmps49
 go_wp2
 go_loop [3, 4] (fun v i => ∃ k : Nat, ∃ V : Int, k ≤ s.size ∧ i = J I ((k : Int) - 1) ∧ v = J I V ∧ 0 ≤ V ∧ V < 2 ^ (8 * (s.size - k)) ∧ loK s s.size = loK s k + V * 2 ^ (8 * k)) (fun _ i => (intOf i + 1).toNat)
 case atStart => exact ⟨s.size, 0, by omega, rfl, rfl, by omega, by rw [Nat.sub_self]; decide, by omega⟩
 case round =>
  obtain ⟨k, V, hk, rfl, rfl, h0, h1, h2⟩ := hrel
  have H2 := Hi h2
  have H1 := Hi h1
  clear h2
  by_cases hlt : 1 ≤ k
  · obtain ⟨k, rfl⟩ : ∃ m, k = m + 1 := ⟨k - 1, by omega⟩
    have hb := aS s k
    have hkl : k < s.size := by omega
    have hV : V ≤ 16777216 := by have := pow32 (s.size - (k + 1)) (by omega); omega
    have e1 : (((k + 1 : Nat) : Int) - 1) = (k : Int) := by omega
    rw [e1]
    clear h1 e1
    go_wp2
    go_round
    case rel =>
     refine ⟨k, V * 256 + aG s k, by omega, by go_num, ?_, by omega, ?_, ?_⟩
     · rw [aX s k hkl, IntWalk.wrap64_in (aG s k) (by omega), IntWalk.wrap64_in _ (by omega), Int.mul_comm]
     · rw [show s.size - k = (s.size - (k + 1)) + 1 by omega, pow8]; have := H1.out; omega
     · rw [H2.out, pow8, loK, Int.add_mul, Int.mul_assoc, Int.add_assoc, Int.add_comm (V * _)]
    case measure => simp [intOf]
  · obtain rfl : k = 0 := by omega
    have E := Hi (show V = loK s s.size by rw [H2.out, loK]; simp)
    clear h1
    go_wp2
    go_ret
    exact ⟨ret_int E.out, rfl⟩
end Go.Proofs.YtfchnibjjokmbaaGreat
namespace Go
section
variable {P : Program} {ops : Array Oper} {Q : Exit → Act → World → Prop} {md : Region.Mode} {S : World → Prop} {fuel : Nat} {listed l2 : Array Bool} {a a2 : Act} {w : World} {oi : Oper}
theorem zt (i : Nat) (v : Value) (hi : ops[i]? = some oi) (hS : S w) (h : wpAnyH P md ops Q S fuel l2 a2 w)
 (ha : a.put oi.dst v = a2 := by first | (simp only [Act.put, zq1, zq2, zq3, zq4, zq5, zq6]; rfl) | rfl)
 (hl : listed.setIfInBounds i true = l2 := by first | (simp only [List.setIfInBounds_toArray, List.set_cons_zero, List.set_cons_succ]; rfl) | rfl)
 (hy : ∀ w, S w → (execOp a.eval oi).run P w = .ok (.value v) w := by intro w hS; go_simp)
 (hw : Region.wanted oi (yielded ops a.tmps) = true := by rfl) (hs : Region.noSelect ops = true := by kernel_rfl) (hf : Region.free md ops listed i = true := by kernel_rfl) (hr : (Region.ready md ops listed).contains i = true := by kernel_rfl)
 (hQ : ∀ c a' w, Q (.panic c) (a'.put oi.dst v) w → Q (.panic c) a' w := by exact fun _ _ _ h => h) : wpAnyH P md ops Q S (fuel + 1) listed a w :=
 wpAnyH_take hi hs hf hr hQ (Or.inl ⟨hw, hy⟩) hS (ha ▸ hl ▸ h)
theorem za (i : Nat) (v : Value) (hi : ops[i]? = some oi) (hS : S w) (h : wpAnyH P md ops Q S fuel l2 a2 w)
 (ha : a.put oi.dst v = a2 := by first | (simp only [Act.put, zq1, zq2, zq3, zq4, zq5, zq6]; rfl) | rfl)
 (hl : listed.setIfInBounds i true = l2 := by first | (simp only [List.setIfInBounds_toArray, List.set_cons_zero, List.set_cons_succ]; rfl) | rfl)
 (hy : ∀ w, S w → (execOp a.eval oi).run P w = .ok (.value v) w := by (intro w hS; (go_simp) <;> first | rfl | assumption | (intro hh; exfalso; omega) | (exact (Proofs.YtfchnibjjokmbaaGreat.i64_wrap_id _ (by omega) (by omega)).trans (by omega)) | omega))
 (hw : Region.wanted oi (yielded ops a.tmps) = true := by rfl) (hs : Region.noSelect ops = true := by kernel_rfl) (hf : Region.free md ops listed i = true := by kernel_rfl) (hr : (Region.ready md ops listed).contains i = true := by kernel_rfl)
 (hQ : ∀ c a' w, Q (.panic c) (a'.put oi.dst v) w → Q (.panic c) a' w := by exact fun _ _ _ h => h) : wpAnyH P md ops Q S (fuel + 1) listed a w :=
 wpAnyH_take hi hs hf hr hQ (Or.inl ⟨hw, hy⟩) hS (ha ▸ hl ▸ h)
theorem zg (i : Nat) (v : Value) (hi : ops[i]? = some oi) (hy : YieldsIf P ops S oi v a) (hS : S w) (h : wpAnyH P md ops Q S fuel l2 a2 w)
 (ha : a.put oi.dst v = a2 := by first | (simp only [Act.put, zq1, zq2, zq3, zq4, zq5, zq6]; rfl) | rfl)
 (hl : listed.setIfInBounds i true = l2 := by first | (simp only [List.setIfInBounds_toArray, List.set_cons_zero, List.set_cons_succ]; rfl) | rfl)
 (hs : Region.noSelect ops = true := by kernel_rfl) (hf : Region.free md ops listed i = true := by kernel_rfl) (hr : (Region.ready md ops listed).contains i = true := by kernel_rfl)
 (hQ : ∀ c a' w, Q (.panic c) (a'.put oi.dst v) w → Q (.panic c) a' w := by exact fun _ _ _ h => h) : wpAnyH P md ops Q S (fuel + 1) listed a w :=
 wpAnyH_take hi hs hf hr hQ hy hS (ha ▸ hl ▸ h)
theorem zn (i : Nat) (hi : ops[i]? = some oi) (hS : S w) (h : wpAnyH P md ops Q S fuel l2 a2 w)
 (ha : a.put oi.dst undef = a2 := by first | (simp only [Act.put, zq1, zq2, zq3, zq4, zq5, zq6]; rfl) | rfl)
 (hl : listed.setIfInBounds i true = l2 := by first | (simp only [List.setIfInBounds_toArray, List.set_cons_zero, List.set_cons_succ]; rfl) | rfl)
 (hw : Region.wanted oi (yielded ops a.tmps) = false := by rfl) (hs : Region.noSelect ops = true := by kernel_rfl) (hf : Region.free md ops listed i = true := by kernel_rfl) (hr : (Region.ready md ops listed).contains i = true := by kernel_rfl)
 (hQ : ∀ c a' w, Q (.panic c) (a'.put oi.dst undef) w → Q (.panic c) a' w := by exact fun _ _ _ h => h) : wpAnyH P md ops Q S (fuel + 1) listed a w :=
 wpAnyH_take hi hs hf hr hQ (Or.inr ⟨hw, rfl⟩) hS (ha ▸ hl ▸ h)
theorem zl (i : Nat) (ty : TypeId) (b o : Nat) (YS : List Value) {x : Operand} (hi : ops[i]? = some oi) (hR : ∀ w, S w → w.rangeAt b o YS) {d : TypeDesc} (hu : P.underlying ty = some d) (hS : S w) (h : wpAnyH P md ops Q S fuel l2 a2 w)
 (ho : oi.op = .load ty x := by rfl) (hx : a.eval x = Y (some ⟨b, o, none⟩) := by rfl)
 (ha : a.put oi.dst (.agg YS.toArray) = a2 := by first | (simp only [Act.put, zq1, zq2, zq3, zq4, zq5, zq6]; rfl) | rfl)
 (hl : listed.setIfInBounds i true = l2 := by first | (simp only [List.setIfInBounds_toArray, List.set_cons_zero, List.set_cons_succ]; rfl) | rfl)
 (hd : d.isRow = true := by rfl) (hz : (P.info? ty).map (·.size) = some YS.length := by kernel_rfl)
 (hw : Region.wanted oi (yielded ops a.tmps) = true := by rfl) (hs : Region.noSelect ops = true := by kernel_rfl) (hf : Region.free md ops listed i = true := by kernel_rfl) (hr : (Region.ready md ops listed).contains i = true := by kernel_rfl)
 (hQ : ∀ c a' w, Q (.panic c) (a'.put oi.dst (.agg YS.toArray)) w → Q (.panic c) a' w := by exact fun _ _ _ h => h) : wpAnyH P md ops Q S (fuel + 1) listed a w :=
 wpAnyH_take hi hs hf hr hQ (yieldsIf_load_mid hw ty x ho b o hx YS d hR hu hd hz) hS (ha ▸ hl ▸ h)
variable {late : Nat → Bool}
theorem zT (i : Nat) (v : Value) (hi : ops[i]? = some oi) (hS : S w) (h : wpAnyT P md ops Q S late fuel l2 a2 w)
 (ha : a.put oi.dst v = a2 := by first | (simp only [Act.put, zq1, zq2, zq3, zq4, zq5, zq6]; rfl) | rfl)
 (hl : listed.setIfInBounds i true = l2 := by first | (simp only [List.setIfInBounds_toArray, List.set_cons_zero, List.set_cons_succ]; rfl) | rfl)
 (hy : ∀ w, S w → (execOp a.eval oi).run P w = .ok (.value v) w := by intro w hS; go_simp)
 (hw : Region.wanted oi (yielded ops a.tmps) = true := by rfl) (hs : Region.noSelect ops = true := by kernel_rfl) (hf : Region.free md ops listed i = true := by kernel_rfl) (hr : (Region.ready md ops listed).contains i = true := by kernel_rfl) (hlt : lateOk md ops late = true := by kernel_rfl) (hli : late i = false := by rfl)
 (hQ : ∀ c a' w, Q (.panic c) (a'.put oi.dst v) w → Q (.panic c) a' w := by exact fun _ _ _ h => h) : wpAnyT P md ops Q S late (fuel + 1) listed a w :=
 wpAnyT_take hi hs hf hr hlt hli hQ (Or.inl ⟨hw, hy⟩) hS (ha ▸ hl ▸ h)
end
end Go
namespace Go.Proofs.YtfchnibjjokmbaaGreat
open Go.RowKit
section
variable {P : Program} {ops : Array Oper} {rest : List Oper} {op : Oper} {a : Act} {w : World} {Q : Exit → Act → World → Prop}
theorem so (ty : TypeId) (n b : Nat) (vs : List Value) {cs : Array Value} {T : TypeId} (hO : Obj1 w b cs T) (h : ∀ w2, Stored w b 0 vs w2 → Obj1 w2 b vs.toArray T → wpList P ops Q rest (a.put op.dst undef) w2)
 {x y : Operand} (hgd : op.guard = none := by rfl) (ho : op.op = .store ty x y := by rfl) (hl : vs.length = n := by rfl) (h1 : vs.all (·.oneCell') = true := by rfl)
 (hx : a.eval x = Y (some ⟨b, 0, none⟩) := by kernel_rfl) (hy : a.eval y = .agg vs.toArray := by kernel_rfl) (hi : (P.info? ty).map (·.size) = some n := by kernel_rfl) (hs : cs.size = n := by first | rfl | simp) : wpList P ops Q (op :: rest) a w :=
 store_o hgd ty n x y ho b vs hl h1 hx hy hi hO hs h
end
theorem aQ {P : Program} {fn : Func} {p q : Tmp} {ty ty2 : TypeId} (h : fn.results = #[.cell p ty, .cell q ty2]) (tmps : Array Value) (w : World) (b b2 : Nat) (cs cs2 : List Value) (d d2 : TypeDesc)
 (hp : tmps.getD p undef = Y (some ⟨b, 0, none⟩)) (R : w.rangeAt b 0 cs) (hu : P.underlying ty = some d) (hd : d.isRow = true) (hi : (P.info? ty).map (·.size) = some cs.length)
 (hq : tmps.getD q undef = Y (some ⟨b2, 0, none⟩)) (R2 : w.rangeAt b2 0 cs2) (hu2 : P.underlying ty2 = some d2) (hd2 : d2.isRow = true) (hi2 : (P.info? ty2).map (·.size) = some cs2.length) :
 (results fn tmps).run P w = .ok (.tuple #[.agg cs.toArray, .agg cs2.toArray]) w := by
 have hp' : tmps[p]?.getD undef = Y (some ⟨b, 0, none⟩) := by simpa using hp
 have hq' : tmps[q]?.getD undef = Y (some ⟨b2, 0, none⟩) := by simpa using hq
 simp [results, h, hp', hq', asAddr, run_loadVar_mid w b 0 ty cs d R hu hd hi, run_loadVar_mid w b2 0 ty2 cs2 d2 R2 hu2 hd2 hi2]
def numB (s : ByteArray) (low : Bool) : Int := if low = true then loK s s.size else hiK s s.size
theorem number_any' (s : ByteArray) (low : Bool) (w : World) (hs : s.size ≤ 4) : Calls Tryz.prog 208 #[.string s, .bool low] w fun e w' => e = .returned (J I (numB s low)) ∧ w = w' := by
 cases low
 · exact number_hi' s w hs
 · exact number_lo' s w hs
theorem next_size (x : Sr) (l : Led) (n : Int) (h : 0 ≤ n) : ((x.next l n).2.1.size : Int) ≤ n := by
 unfold Sr.next
 split
 · simp only [ByteArray.size_extract]; omega
 · simpa using h
def NumPost (w : World) (X : Nat) (x y : Sr) (m : Led) (v : Int) (ok : Bool) (e : Ending) (w' : World) : Prop := e = .returned (.tuple #[J I v, .bool ok]) ∧ Pair w' X y m ∧ Chg (two X x) w w'
abbrev NumOf (w : World) (X : Nat) (x : Sr) (l : Led) (n : Int) (low : Bool) : Ending → World → Prop := NumPost w X x (x.next l n).1.1 (x.next l n).1.2 (numB (x.next l n).2.1 low) (x.next l n).2.2
theorem read_any (X : Nat) (x : Sr) (l : Led) (n : Int) (low : Bool) (w : World) (h : Pair w X x l) (h0 : 0 ≤ n) (h1 : n ≤ 4) : Calls Tryz.prog 203 #[Y (some ⟨X, 0, none⟩), J I n, .bool low] w (NumOf w X x l n low) := by
 have HN := Hi (next_any X x l n w h)
 have hs := next_size x l n h0
 unfold NumOf
 obtain ⟨⟨⟨y, m⟩, s, ok⟩, hr⟩ : ∃ r, x.next l n = r := ⟨_, rfl⟩
 rw [hr] at HN hs ⊢
 have hs' : s.size ≤ 4 := by simp only at hs; omega
 have HB := Hi (fun w0 => number_any' s low w0 hs')
 clear h hr hs hs' h0 h1
 go_enter Tryz.func203, Tryz.ntmps203
 go_wp2_with (first
  | (go_at_call 96; (with_reducible refine (HN.out).mono ?_); rintro e w1 ⟨rfl, hP, hC⟩)
  | (go_at_call 208; (with_reducible refine (HB.out _).mono ?_); rintro e w2 ⟨rfl, rfl⟩))
 go_ret2
 exact ⟨rfl, hP, hC⟩
theorem u8_any (X : Nat) (x : Sr) (l : Led) (w : World) (h : Pair w X x l) : Calls Tryz.prog 179 #[Y (some ⟨X, 0, none⟩)] w (NumOf w X x l 1 true) := by
 have HN := Hi (read_any X x l 1 true w h (by decide) (by decide))
 unfold NumOf at HN ⊢
 obtain ⟨⟨⟨y, m⟩, s, ok⟩, hr⟩ : ∃ r, x.next l 1 = r := ⟨_, rfl⟩
 rw [hr] at HN ⊢
 clear h hr
 go_enter Tryz.func179, Tryz.ntmps179
 go_wp2_with (go_at_call 203; (with_reducible refine (HN.out).mono ?_); rintro e w1 ⟨rfl, hP, hC⟩)
 go_ret2
 exact ⟨rfl, hP, hC⟩
theorem le16_any (X : Nat) (x : Sr) (l : Led) (w : World) (h : Pair w X x l) : Calls Tryz.prog 197 #[Y (some ⟨X, 0, none⟩)] w (NumOf w X x l 2 true) := by
 have HN := Hi (read_any X x l 2 true w h (by decide) (by decide))
 unfold NumOf at HN ⊢
 obtain ⟨⟨⟨y, m⟩, s, ok⟩, hr⟩ : ∃ r, x.next l 2 = r := ⟨_, rfl⟩
 rw [hr] at HN ⊢
 clear h hr
 go_enter Tryz.func197, Tryz.ntmps197
 go_wp2_with (go_at_call 203; (with_reducible refine (HN.out).mono ?_); rintro e w1 ⟨rfl, hP, hC⟩)
 go_ret2
 exact ⟨rfl, hP, hC⟩
theorem le32_any (X : Nat) (x : Sr) (l : Led) (w : World) (h : Pair w X x l) : Calls Tryz.prog 198 #[Y (some ⟨X, 0, none⟩)] w (NumOf w X x l 4 true) := by
 have HN := Hi (read_any X x l 4 true w h (by decide) (by decide))
 unfold NumOf at HN ⊢
 obtain ⟨⟨⟨y, m⟩, s, ok⟩, hr⟩ : ∃ r, x.next l 4 = r := ⟨_, rfl⟩
 rw [hr] at HN ⊢
 clear h hr
 go_enter Tryz.func198, Tryz.ntmps198
 go_wp2_with (go_at_call 203; (with_reducible refine (HN.out).mono ?_); rintro e w1 ⟨rfl, hP, hC⟩)
 go_ret2
 exact ⟨rfl, hP, hC⟩
def ab (v : Int) : Int := if 2147483648 ≤ v then v - 4294967296 else v
theorem next_ok {x : Sr} {l : Led} {n : Int} (h : (x.next l n).2.2 = true) : (l.work 1).2 = true ∧ 0 ≤ n ∧ n ≤ (x.e : Int) - x.p ∧ (x.next l n).1.1 = { x with p := x.p + n.toNat } ∧ (x.next l n).1.2 = (l.work 1).1 ∧ (x.next l n).2.1 = x.s.extract x.p (x.p + n.toNat) := by
 unfold Sr.next at h ⊢
 by_cases hc : (l.work 1).2 = true ∧ 0 ≤ n ∧ n ≤ (x.e : Int) - x.p
 · rw [if_pos hc]; exact ⟨hc.1, hc.2.1, hc.2.2, rfl, rfl, rfl⟩
 · rw [if_neg hc] at h; simp at h
theorem next_bad {x : Sr} {l : Led} {n : Int} (h : (x.next l n).2.2 = false) : (x.next l n).1.1 = x ∧ (x.next l n).1.2 = (l.work 1).1 ∧ (x.next l n).2.1 = ByteArray.empty ∧ ¬ ((l.work 1).2 = true ∧ 0 ≤ n ∧ n ≤ (x.e : Int) - x.p) := by
 unfold Sr.next at h ⊢
 by_cases hc : (l.work 1).2 = true ∧ 0 ≤ n ∧ n ≤ (x.e : Int) - x.p
 · rw [if_pos hc] at h; simp at h
 · rw [if_neg hc]; exact ⟨rfl, rfl, rfl, hc⟩
/-! ### windows -/
theorem ret_b {a b : Bool} (h : a = b) : Ending.returned (.bool a) = Ending.returned (.bool b) := by rw [h]
theorem ret_i {a b : Int} (h : a = b) : Ending.returned (J I a) = Ending.returned (J I b) := by rw [h]
structure Chk where
 x1 : Int
 kn : Bool
 pb : Bool
 th : Bool
 c7 : Bool
 C : Int
 W : Int
 H : Int
 dp : Bool
 f : Int
 al : Bool
def Chk.row (c : Chk) : Nat → Bool × Int × Int × Bool
 | 0 => (decide (1 < c.x1), 2, 1, false)
 | 1 => (!c.kn, 3, 2, false)
 | 2 => (c.pb && !c.th, 2, 1, false)
 | 3 => (c.th && !c.c7, 3, 7, false)
 | 4 => (c.th && c.C == 0, 2, 5, true)
 | 5 => (c.W == 0, 2, 12, false)
 | 6 => (decide (16384 < c.W), 3, 12, true)
 | 7 => (c.H == 0, 2, 14, false)
 | 8 => (decide (16384 < c.H), 3, 14, true)
 | 9 => (!c.dp, 3, 16, false)
 | 10 => (c.f / 64 != 0, 3, 17, true)
 | 11 => (!c.al, 2, 17, true)
 | _ => (false, 0, 0, false)
def Chk.from (c : Chk) : Nat → Nat → Option (Int × Int)
 | 0, _ => none
 | n + 1, i => if (c.row i).1 = true then some ((c.row i).2.1, (c.row i).2.2.1) else c.from n (i + 1)
def Chk.first (c : Chk) : Option (Int × Int) := c.from 12 0
def Chk.isFrom (c : Chk) : Nat → Nat → Bool
 | 0, _ => true
 | n + 1, i => if ((c.row i).1 && !(c.row i).2.2.2) = true then false else c.isFrom n (i + 1)
def Chk.is (c : Chk) : Bool := c.isFrom 12 0
theorem byN_ext (s : ByteArray) (a b i : Nat) (h : a + i < b) (hb : b ≤ s.size) : aG (s.extract a b) i = aG s (a + i) := by
 have h1 : i < (s.extract a b).size := by rw [ByteArray.size_extract]; omega
 rw [← aX (s.extract a b) i h1, ← aX s (a + i) (by omega), ByteArray.getElem_extract]
end Go.Proofs.YtfchnibjjokmbaaGreat
namespace Go
theorem aP {P : Program} {ops : Array Oper} {Q : Exit → Act → World → Prop} {a : Act} {w : World} (p : Nat) (v : Value) (hv : a.tmps.getD p undef = v) (hd : a.defers = [])
 (h : ∀ A : Act, A.tmps.getD p undef = v → A.defers = [] → wpList P ops Q [] A w) : wpList P ops Q [] a w := h a hv hd
end Go
namespace Go.Proofs.YtfchnibjjokmbaaGreat
open Go.RowKit
def RA (w : World) (L : List Value) (e : Ending) (w' : World) : Prop := e = .returned (.agg L.toArray) ∧ Below w.heap.size w w'
theorem Stored.chg {S : Nat → Prop} {a w w2 : World} {b o : Nat} {vs : List Value} (hst : Stored w b o vs w2) (h : Chg S a w) (hb : a.heap.size ≤ b) : Chg S a w2 := by
 rw [show w2 = _ from hst]; clear hst
 induction vs generalizing w o with
 | nil => exact h
 | cons v r ih => rw [World.setCells]; exact ih (h.set _ _ (Or.inr hb))
theorem Pair.into {w w2 : World} {X b o : Nat} {vs : List Value} {x : Sr} {l : Led} (h : Pair w X x l) (hst : Stored w b o vs w2) (h1 : X ≠ b) (h2 : x.L ≠ b) : Pair w2 X x l :=
 ⟨⟨hst.oth h.src.obj h1, h.src.ok, h.src.ne⟩, ⟨hst.oth h.led.obj h2, h.led.ok⟩⟩
theorem Pair.upon {B : Nat} {w w' : World} {X : Nat} {x : Sr} {l : Led} (h : Pair w X x l) (hb : Below B w w') (h1 : X < B) (h2 : x.L < B) : Pair w' X x l := ⟨⟨h.src.obj.below hb h1, h.src.ok, h.src.ne⟩, ⟨h.led.obj.below hb h2, h.led.ok⟩⟩
def aK (x : Sr) (l : Led) (f : Int) : List Value := if l.br = true then [J I 4, J I f, J I x.p] else [J I 1, J I f, J I x.e]
theorem faultL_eq (x : Sr) (l : Led) (f : Int) : x.fault l f = .agg (aK x l f).toArray := by unfold Sr.fault aK; split <;> rfl
theorem aV (x : Sr) (l : Led) (f : Int) : (aK x l f).length = 3 := by unfold aK; split <;> rfl
theorem faultL_one (x : Sr) (l : Led) (f : Int) : (aK x l f).all (·.oneCell') = true := by unfold aK; split <;> rfl
theorem next_L (x : Sr) (l : Led) (n : Int) : (x.next l n).1.1.L = x.L := by unfold Sr.next; split <;> rfl
theorem fault_c (X : Nat) (x : Sr) (l : Led) (f : Int) (w : World) (F : List Value) (hF : aK x l f = F) (h : Pair w X x l) : Calls Tryz.prog 37 #[Y (some ⟨X, 0, none⟩), J I f] w (RA w F) := by
 subst hF
 exact (fault_any X x l f w h).mono fun e w' hh => ⟨hh.1.trans (by rw [faultL_eq]), hh.2⟩
theorem chg_none {w w' : World} (h : Chg (fun _ => False) w w') : Below w.heap.size w w' := h.below (Nat.le_refl _) (fun _ h => h.elim)
/-! ### SrcWindows -/
theorem snew_at (L : Nat) (s : ByteArray) (l : Led) (w : World) (hs : s.size ≤ 9223372036854775807) (hL : LedAt w L l) : Calls Tryz.prog 21 #[Y (some ⟨L, 0, none⟩), .string s] w fun e w' =>
 ∃ X, e = .returned (.tuple #[Y (some ⟨X, 0, none⟩), J I 0]) ∧ Pair w' X ⟨L, s, 0, s.size, 0⟩ l ∧ w.heap.size ≤ X ∧ Chg (fun _ => False) w w' :=
 (snew_any L s w hs hL.lt).mono fun e w' ⟨X, h1, h2, h3, h4⟩ => ⟨X, h1, ⟨h2, hL.chg h4 (fun h => h)⟩, h3, h4⟩
def strOf (ns : List Int) : ByteArray := ns.foldl (fun r n => r.push (UInt8.ofNat n.toNat)) ByteArray.empty
theorem app1 {P : Program} {ops : Array Oper} {rest : List Oper} {o : Oper} {a : Act} {Q : Exit → Act → World → Prop} (hgd : o.guard = none) (s x : Operand) (t : TypeId)
 (ho : o.op = .call { callee := .builtin .append, args := #[s, x], argTypes := #[t, t] })
 (base : Nat) (e : TypeId) (z : Value) (bytes : Nat) (ht : P.underlying t = some (.slice e)) (hi : (P.info? e).map (fun i => (i.zero, i.size, i.bytes)) = some (some z, 1, bytes)) (hz1 : z.cells.size = 1)
 (v : Value) (n : Nat) (xs : List Value) (hs : a.eval s = v) {wr : World} (hown : wr.ownsRow base e 1 v n xs) (X : Value) (hX : X.oneCell' = true) (T : TypeId)
 (hx : a.eval x = .slice (some ⟨wr.heap.size, 0, none⟩) 1 1) (hn : (n + 1) * bytes ≤ 140737488355328) (hn2 : n + 1 ≤ maxLen) (hbase : base ≤ wr.heap.size)
 (h : ∀ v' w', w'.ownsRow base e 1 v' (n + 1) (xs ++ [X]) → (∀ W, Below base W wr → Below base W w') → base ≤ w'.heap.size → wpList P ops Q rest (a.put o.dst v') w') :
 wpList P ops Q (o :: rest) a (wr.alloc (.cells #[X] T)) := by
 obtain ⟨i, i1, i2, i3, i4⟩ := info_parts hi
 have hz : wr.heap.size < (wr.alloc (.cells #[X] T)).heap.size := by simp
 refine wpList_append_own _ hgd s x t ho base e i z 1 bytes ht i1 i2 i3 i4 hz1 (by decide) v n xs hs (hown.alloc _) ⟨wr.heap.size, 0, none⟩ 1 1 [X] hx rfl ?_ ?_ hn2 hn (by omega) ?_
 · intro j u hj
   match j, hj with
   | 0, hj => simp at hj; subst hj; simp [Addr.add, go_sem]
 · intro u hu; simp at hu; subst hu; exact hX
 · intro v' w' hown' hgrow _
   refine h v' w' hown' (fun W hB => ?_) (Nat.le_trans (by omega) hgrow.size)
   refine (hB.alloc hbase _).grown hgrow (by omega) ?_
   intro k hk
   obtain ⟨_, h2⟩ := hown
   rcases h2 with ⟨rfl, _⟩ | ⟨g, cap, cur, rfl, hg, _⟩
   · simp [Value.ownBlock] at hk
   · simp [Value.ownBlock] at hk; omega
theorem owns_cell {w : World} {base e g n cap : Nat} {xs : List Value} (h : w.ownsRow base e 1 (.slice (some ⟨g, 0, none⟩) n cap) n xs) (j : Nat) (v : Value) (hv : xs[j]? = some v) : w.cell? ⟨g, j, none⟩ = some v := by
 obtain ⟨hl, h2⟩ := h
 rcases h2 with ⟨h2, _⟩ | ⟨g', cap', cur, hv', hg, hh, hn, hc, hs, ht⟩
 · simp at h2
 · injection hv' with hv'; injection hv' with hv'; injection hv' with hv'; subst hv'
   have hj : j < n := by rw [← Nat.mul_one n, ← hl]; exact (List.getElem?_eq_some_iff.1 hv).1
   rw [← ht, List.getElem?_take, if_pos (by omega)] at hv
   simp [World.cell?, hh]; simpa using hv
theorem owns_form {w : World} {base e n : Nat} {v : Value} {xs : List Value} (h : w.ownsRow base e 1 v n xs) (hn : 0 < n) : ∃ g cap, v = .slice (some ⟨g, 0, none⟩) n cap ∧ base ≤ g ∧ g < w.heap.size ∧ n ≤ cap ∧ cap ≤ maxLen := by
 obtain ⟨hl, h2⟩ := h
 rcases h2 with ⟨_, h2⟩ | ⟨g', cap', cur, hv', hg, hh, hn, hc, hs, ht⟩
 · omega
 · exact ⟨g', cap', hv', hg, (Array.getElem?_eq_some_iff.1 hh).1, hn, hc⟩
theorem owns_len {w : World} {base e n : Nat} {v : Value} {xs : List Value} (h : w.ownsRow base e 1 v n xs) : xs.length = n := by have := h.1; omega
theorem owns_string {P : Program} {w : World} {base e n : Nat} {v : Value} {ns : List Int} (h : w.ownsRow base e 1 v n (ns.map (Value.int .u8))) (src dst e' : TypeId)
 (hs : P.underlying src = some (.slice e')) (he : P.underlying e' = some (.int .u8)) (hd : P.underlying dst = some .string) : (convert src dst v).run P w = .ok (.string (strOf ns)) w := by
 have hl := owns_len h
 simp at hl
 by_cases h0 : n = 0
 · subst h0
   obtain rfl : ns = [] := List.length_eq_zero_iff.1 hl
   obtain ⟨_, h2⟩ := h
   rcases h2 with ⟨rfl, _⟩ | ⟨g, cap, cur, rfl, hg, hh, _⟩
   · rw [run_convert_bytes_string w src dst e' none 0 0 hs he hd]; rfl
   · rw [run_convert_bytes_string w src dst e' _ 0 cap hs he hd]
     exact run_bytesToString w _ 0 cap [] (by rfl)
 · obtain ⟨g, cap, rfl, _⟩ := owns_form h (by omega)
   rw [run_convert_bytes_string w src dst e' _ n cap hs he hd]
   refine run_bytesToString w _ n cap ns ?_
   have := run_loadCells_list (P := P) w ⟨g, 0, none⟩ (ns.map (Value.int .u8)) (fun j v hv => by rw [Addr.add_mid, Nat.zero_add]; exact owns_cell h j v hv)
   rw [List.length_map, hl] at this; exact this
theorem rsigned_any (s : ByteArray) (w : World) (hs : s.size ≤ 4) : Calls Tryz.prog 51 #[.string s] w fun e w' => e = .returned (J I (ab (loK s s.size))) ∧ w = w' := by
 have hb := loK_bd s s.size
 have hp := pow_le' (show 8 * s.size ≤ 32 by omega)
 have h32 : (2 : Int) ^ 32 = 4294967296 := by decide
 have HL := Hi (fun w0 => rle_any s w0 hs)
 unfold ab
 obtain ⟨v, hv⟩ : ∃ v, loK s s.size = v := ⟨_, rfl⟩
 rw [hv] at HL hb ⊢
 have v0 : 0 ≤ v := hb.1
 have v1 : v < 4294967296 := by omega
 clear hb hp h32 hv hs
 by_cases h : 2147483648 ≤ v
 · rw [if_pos h]
   go_enter Tryz.func51, Tryz.ntmps51
   go_wp2_with (go_at_call 49; (with_reducible refine (HL.out _).mono ?_); rintro e w1 ⟨rfl, rfl⟩)
   go_ret
   exact ⟨rfl, rfl⟩
 · rw [if_neg h]
   have h' : v < 2147483648 := by omega
   go_enter Tryz.func51, Tryz.ntmps51
   go_wp2_with (go_at_call 49; (with_reducible refine (HL.out _).mono ?_); rintro e w1 ⟨rfl, rfl⟩)
   go_ret
   exact ⟨rfl, rfl⟩
theorem snew_c7 (L : Nat) (s : ByteArray) (l : Led) (w : World) (hs : s.size ≤ 9223372036854775807) (hL : LedAt w L l) : Calls Tryz.prog 21 #[Y (some ⟨L, 0, none⟩), .string s] w fun e w' =>
 ∃ X, e = .returned (.tuple #[Y (some ⟨X, 0, none⟩), J I 0]) ∧ Pair w' X ⟨L, s, 0, s.size, 0⟩ l ∧ w.heap.size ≤ X ∧ Below w.heap.size w w' :=
 (snew_at L s l w hs hL).mono fun e w' ⟨X, h1, h2, h3, h4⟩ => ⟨X, h1, h2, h3, chg_none h4⟩
theorem load_og {P : Program} {ops : Array Oper} {rest : List Oper} {op : Oper} {a : Act} {w : World} {Q : Exit → Act → World → Prop} (hw : Region.wanted op (yielded ops a.tmps) = true) (ty : TypeId) (n : Nat) (x : Operand) (ho : op.op = .load ty x)
 (b : Nat) (YS : List Value) (hl : YS.length = n) (hx : a.eval x = Y (some ⟨b, 0, none⟩)) {T : TypeId} (hO : Obj1 w b YS.toArray T) {d : TypeDesc} (hu : P.underlying ty = some d) (hd : d.isRow = true) (hi : (P.info? ty).map (·.size) = some n)
 (h : wpList P ops Q rest (a.put op.dst (.agg YS.toArray)) w) : wpList P ops Q (op :: rest) a w := by
 rw [wpList, if_pos hw]
 exact Or.inl (wp_load_mid ty x ho b 0 hx YS d hO.range0 hu hd (by rw [hl]; exact hi) h)
theorem Obj1.range {w : World} {b : Nat} {cs : Array Value} {T : TypeId} (h : Obj1 w b cs T) (o : Nat) (L : List Value) (hL : (cs.toList.drop o).take L.length = L) : w.rangeAt b o L := fun j v hv => by
 rw [h.cell]
 rw [← hL, List.getElem?_take] at hv
 split at hv
 · rw [List.getElem?_drop] at hv; simpa using hv
 · cases hv
theorem load_ag {P : Program} {ops : Array Oper} {rest : List Oper} {op : Oper} {a : Act} {w : World} {Q : Exit → Act → World → Prop} (hw : Region.wanted op (yielded ops a.tmps) = true) (ty : TypeId) (x : Operand) (ho : op.op = .load ty x)
 (b o : Nat) (YS : List Value) (hx : a.eval x = Y (some ⟨b, o, none⟩)) {cs : Array Value} {T : TypeId} (hO : Obj1 w b cs T) (hL : (cs.toList.drop o).take YS.length = YS) {d : TypeDesc} (hu : P.underlying ty = some d) (hd : d.isRow = true) (hi : (P.info? ty).map (·.size) = some YS.length)
 (h : Unit → wpList P ops Q rest (a.put op.dst (.agg YS.toArray)) w) : wpList P ops Q (op :: rest) a w := by
 rw [wpList, if_pos hw]
 exact Or.inl (wp_load_mid ty x ho b o hx YS d (hO.range o YS hL) hu hd hi (h ()))
theorem aE {P : Program} {ops : Array Oper} {rest : List Oper} {op : Oper} {a : Act} {w : World} {Q : Exit → Act → World → Prop} {g : Nat × Bool} (hg : op.guard = some g) (hw : Region.wanted op (yielded ops a.tmps) = false) (h : Unit → wpList P ops Q rest (a.put op.dst undef) w) : wpList P ops Q (op :: rest) a w := by
 rw [wpList, if_neg (by simp [hw])]; exact h ()
theorem store_a {P : Program} {ops : Array Oper} {rest : List Oper} {op : Oper} {a : Act} {w : World} {Q : Exit → Act → World → Prop} (hgd : op.guard = none) (ty : TypeId) (x y : Operand) (ho : op.op = .store ty x y)
 (b o : Nat) (YS : List Value) (h1 : YS.all (·.oneCell') = true) (hx : a.eval x = Y (some ⟨b, o, none⟩)) (hy : a.eval y = .agg YS.toArray) (hi : (P.info? ty).map (·.size) = some YS.length) {cs : Array Value} {T : TypeId} (hO : Obj1 w b cs T) (hs : o + YS.length ≤ cs.size)
 (h : ∀ w2, Stored w b o YS w2 → Obj1 w2 b (setL cs o YS) T → wpList P ops Q rest (a.put op.dst undef) w2) : wpList P ops Q (op :: rest) a w :=
 store_gen hgd ty x y ho b o YS.toArray hx hy (by have := hO.there o YS.length hs; simpa using this) (by rw [List.size_toArray]; exact hi) (by simpa using h1)
  fun w2 hst => h w2 (by simpa using hst) ((show Stored w b o YS w2 by simpa using hst).obj hO)
theorem aL {P : Program} {ops : Array Oper} {rest : List Oper} {op : Oper} {a : Act} {w : World} {Q : Exit → Act → World → Prop} (hw : Region.wanted op (yielded ops a.tmps) = true) (ty : TypeId) (n : Nat) (x : Operand) (ho : op.op = .load ty x)
 (b : Nat) (YS : List Value) (hl : YS.length = n) (hx : a.eval x = Y (some ⟨b, 0, none⟩)) {T : TypeId} (hO : Obj1 w b YS.toArray T) {d : TypeDesc} (hu : P.underlying ty = some d) (hd : d.isRow = true) (hi : (P.info? ty).map (·.size) = some n)
 (h : Unit → wpList P ops Q rest (a.put op.dst (.agg YS.toArray)) w) : wpList P ops Q (op :: rest) a w := load_og hw ty n x ho b YS hl hx hO hu hd hi (h ())
theorem Obj1.cells {w : World} {b : Nat} {cs cs' : Array Value} {T : TypeId} (h : Obj1 w b cs T) (e : cs = cs') : Obj1 w b cs' T := e ▸ h
theorem Pair.alloc {w : World} {X : Nat} {x : Sr} {l : Led} (h : Pair w X x l) (o : Obj) : Pair (w.alloc o) X x l :=
 h.upon ((Below.refl w.heap.size w).alloc (Nat.le_refl _) o) h.src.lt h.led.lt
theorem Pair.drew1 {w : World} {X : Nat} {x : Sr} {l : Led} (h : Pair w X x l) : Pair w.drew X x l := ⟨⟨h.src.obj.drew, h.src.ok, h.src.ne⟩, ⟨h.led.obj.drew, h.led.ok⟩⟩
theorem Chg.setc {S : Nat → Prop} {a w : World} (h : Chg S a w) (b o : Nat) (v : Value) (hb : a.heap.size ≤ b) : Chg S a (w.setCell ⟨b, o, none⟩ v) := h.set _ v (Or.inr hb)
theorem Pair.setc {w : World} {X b o : Nat} {x : Sr} {l : Led} (h : Pair w X x l) (v : Value) (h1 : X ≠ b) (h2 : x.L ≠ b) : Pair (w.setCell ⟨b, o, none⟩ v) X x l :=
 h.into (b := b) (o := o) (vs := [v]) rfl h1 h2
def Led.take (s : Led) (n : Int) : Led × Bool := if s.br = true then (s, false) else if n < 0 ∨ s.mb - s.bt < n then (s.refuse 2 n, false) else ({ s with bt := s.bt + n, pk := if s.bt + n ≤ s.pk then s.pk else s.bt + n }, true)
theorem Led.take_ok {s : Led} (h : s.ok) (n : Int) : (s.take n).1.ok := by
 obtain ⟨a, b, c, d, e, f⟩ := h
 unfold Led.take
 by_cases h1 : s.br = true
 · rw [if_pos h1]; exact ⟨a, b, c, d, e, f⟩
 · rw [if_neg h1]
   by_cases h2 : n < 0 ∨ s.mb - s.bt < n
   · rw [if_pos h2]; exact ⟨a, b, c, d, e, f⟩
   · rw [if_neg h2]; exact ⟨by show 0 ≤ s.bt + n; omega, by show s.bt + n ≤ s.mb; omega, c, d, e, f⟩
theorem take_no (L : Nat) (n most : Int) (R : World → Prop) (w : World) (hm : w.cell? ⟨L, 2, none⟩ = some (J I most))
 (HA : Calls Tryz.prog 164 #[Y (some ⟨L, 0, none⟩), Y (some ⟨L, 4, none⟩), J I n, J I most, J I 2] (w.drewN 1) fun e w' => e = .returned (.bool false) ∧ R w') :
 Calls Tryz.prog 127 #[Y (some ⟨L, 0, none⟩), J I n] w fun e w' => e = .returned (.bool false) ∧ R w' := by
 have HA := Hi HA
 go_enter Tryz.func127, Tryz.ntmps127
 go_wp2
 go_still_tail 10, (by kernel_rfl)
 rw [show (⟨w.heap, w.tape, w.drawn + 1, w.os, w.output⟩ : World) = w.drewN 1 from rfl]
 go_wp2_with (go_at_call 164; (with_reducible refine (HA.out).mono ?_); rintro e w1 ⟨rfl, hR⟩)
 go_ret
 exact ⟨rfl, hR⟩
theorem take_yes (L : Nat) (n most bt pk : Int) (w : World) (hm : w.cell? ⟨L, 2, none⟩ = some (J I most)) (w1 : World)
 (HA : Calls Tryz.prog 164 #[Y (some ⟨L, 0, none⟩), Y (some ⟨L, 4, none⟩), J I n, J I most, J I 2] (w.drewN 1) fun e w' => e = .returned (.bool true) ∧ w1 = w')
 (hb : w1.cell? ⟨L, 4, none⟩ = some (J I bt)) (hp : w1.cell? ⟨L, 5, none⟩ = some (J I pk)) (hf : w1.frozen? ⟨L, 5, none⟩ = false) :
 Calls Tryz.prog 127 #[Y (some ⟨L, 0, none⟩), J I n] w fun e w' => e = .returned (.bool true) ∧ ∃ k, w' = if bt ≤ pk then w1.drewN k else (w1.drewN k).setCell ⟨L, 5, none⟩ (J I bt) := by
 have HA := Hi HA
 have HB := Hi (fun w0 (h : w0.cell? ⟨L, 4, none⟩ = some (J I bt)) => (aload64 L 4 bt w0 h).mono (R' := fun e w' => e = .returned (J I bt) ∧ w' = w0) fun e w' hh => ⟨hh.1, hh.2.symm⟩)
 have HP := Hi (fun w0 (h : w0.cell? ⟨L, 5, none⟩ = some (J I pk)) => (aload64 L 5 pk w0 h).mono (R' := fun e w' => e = .returned (J I pk) ∧ w' = w0) fun e w' hh => ⟨hh.1, hh.2.symm⟩)
 have HC := Hi (fun w0 (h : w0.cell? ⟨L, 5, none⟩ = some (J I pk)) (hz : w0.frozen? ⟨L, 5, none⟩ = false) => acas64 L 5 pk bt w0 h hz)
 go_enter Tryz.func127, Tryz.ntmps127
 go_wp2
 go_still_tail 10, (by kernel_rfl)
 rw [show (⟨w.heap, w.tape, w.drawn + 1, w.os, w.output⟩ : World) = w.drewN 1 from rfl]
 go_wp2_with (go_at_call 164; (with_reducible refine (HA.out).mono ?_); rintro e w2 ⟨rfl, rfl⟩)
 refine wp_loop_rounds 1 ?_
 rw [rounds_succ]
 go_upto_region 3 with (fail)
 go_quiet ((first
  | (go_at_call 30; exact Calls.quiet_of_same (HB.out _ (by exact hb)))
  | (go_at_call 30; exact Calls.quiet_of_same (HP.out _ (by exact hp)))))
 by_cases hle : bt ≤ pk
 · go_wp2_with ((with_reducible refine aE rfl ?_ ?_); rfl; intro _)
   go_ret
   exact ⟨rfl, _, by first | rfl | (rw [if_pos hle])⟩
 · go_wp2_with (first
    | ((with_reducible refine aE rfl ?_ ?_); rfl; intro _)
    | (go_at_call 165; (with_reducible refine (HC.out _ (by rw [World.cell?_drewN]; exact hp) (by rw [World.frozen?_drewN]; exact hf)).mono ?_); rintro e w3 ⟨rfl, rfl⟩))
   go_ret
   exact ⟨rfl, _, by first | rfl | (rw [if_neg hle])⟩
theorem ltake_any (L : Nat) (s : Led) (n : Int) (w : World) (h : LedAt w L s) : Calls Tryz.prog 127 #[Y (some ⟨L, 0, none⟩), J I n] w fun e w' =>
 e = .returned (.bool (s.take n).2) ∧ LedAt w' L (s.take n).1 ∧ Chg (· = L) w w' := by
 have hk := Led.take_ok h.ok n
 have h' : LedAt (w.drewN 1) L s := ⟨h.obj.drewN 1, h.ok⟩
 obtain ⟨ho, hok⟩ := h
 have ho1 := ho.drewN 1
 by_cases h1 : s.br = true
 · have e1 : s.take n = (s, false) := by unfold Led.take; rw [if_pos h1]
   rw [e1]
   refine take_no L n s.mb (fun w' => LedAt w' L s ∧ Chg (· = L) w w') w ((ho.cell 2).trans rfl) ((add_broken L 4 n s.mb 2 _ ((ho1.cell 7).trans (by unfold Led.cells; rw [h1]; rfl))).mono ?_)
   rintro e w' ⟨rfl, rfl⟩
   exact ⟨rfl, h', (Chg.refl _ w).drewN 1⟩
 · have hf : s.br = false := by cases hb : s.br <;> simp_all
   by_cases h2 : n < 0 ∨ s.mb - s.bt < n
   · have e1 : s.take n = (s.refuse 2 n, false) := by unfold Led.take; rw [if_neg h1, if_pos h2]
     rw [e1] at hk ⊢
     have ho' : Obj1 (w.drewN 1) L #[J I s.mw, J I s.mh, J I s.mb, J I s.mx, J I s.bt, J I s.pk, J I s.st, .int .u32 0, .int .u32 0, .int .i32 0, .int .u32 0, J I s.rs, J I s.ak] 86 := by
      have := ho1; unfold Led.cells at this; rw [hf] at this; exact this
     refine take_no L n s.mb (fun w' => LedAt w' L (s.refuse 2 n) ∧ Chg (· = L) w w') w ((ho.cell 2).trans rfl) ((add_no L 4 n s.mb 2 s.bt _ _ _ _ _ _ _ _ _ _ _ _ ho' ((ho1.cell 4).trans rfl) h2 hok.b0 hok.b1 hok.b2).mono ?_)
     rintro e w' ⟨rfl, hO, hC⟩
     exact ⟨rfl, ⟨hO, hk⟩, ((Chg.refl _ w).drewN 1).trans hC⟩
   · have e1 : s.take n = ({ s with bt := s.bt + n, pk := if s.bt + n ≤ s.pk then s.pk else s.bt + n }, true) := by unfold Led.take; rw [if_neg h1, if_neg h2]
     rw [e1] at hk ⊢
     have ho2 := ho1.set 4 (J I (s.bt + n))
     refine (take_yes L n s.mb (s.bt + n) s.pk w ((ho.cell 2).trans rfl) _ (add_ok L 4 n s.mb 2 s.bt _ ((ho1.cell 7).trans (by unfold Led.cells; rw [hf]; rfl)) ((ho1.cell 4).trans rfl) (ho1.frozen 4) (by omega) (by omega) hok.b0 hok.b1 hok.b2) ((ho2.cell 4).trans rfl) ((ho2.cell 5).trans rfl) (ho2.frozen 5)).mono ?_
     rintro e w' ⟨rfl, k, rfl⟩
     refine ⟨rfl, ?_, ?_⟩
     · by_cases hle : s.bt + n ≤ s.pk
       · rw [if_pos hle] at hk ⊢
         rw [if_pos hle]
         exact ⟨ho2.drewN k, hk⟩
       · rw [if_neg hle] at hk ⊢
         rw [if_neg hle]
         exact ⟨(ho2.drewN k).set 5 _, hk⟩
     · have hc : Chg (· = L) w ((w.drewN 1).setCell ⟨L, 4, none⟩ (J I (s.bt + n))) := ((Chg.refl _ w).drewN 1).set _ _ (Or.inl rfl)
       split
       · exact hc.drewN k
       · exact (hc.drewN k).set _ _ (Or.inl rfl)
def Led.sides (s : Led) (a b : Int) : Led × Bool := if s.br = true then (s, false) else if a < 1 ∨ s.mw < a then (s.refuse 1 a, false) else if b < 1 ∨ s.mh < b then (s.refuse 1 b, false) else (s, true)
theorem lsides_any (L : Nat) (s : Led) (a b : Int) (w : World) (h : LedAt w L s) : Calls Tryz.prog 80 #[Y (some ⟨L, 0, none⟩), J I a, J I b] w fun e w' =>
 e = .returned (.bool (s.sides a b).2) ∧ LedAt w' L (s.sides a b).1 ∧ Chg (· = L) w w' := by
 have hok := h.ok
 have c0 : w.cell? ⟨L, 0, none⟩ = some (J I s.mw) := (h.obj.cell 0).trans rfl
 have c1 : w.cell? ⟨L, 1, none⟩ = some (J I s.mh) := (h.obj.cell 1).trans rfl
 have H := Hi h
 unfold Led.sides
 cases hb : s.br with
 | true =>
   rw [if_pos rfl]
   have HB := Hi (bload_t L 7 w ((h.obj.cell 7).trans (by unfold Led.cells; rw [hb]; rfl)))
   clear h hb
   go_enter Tryz.func80, Tryz.ntmps80
   go_wp2_with (go_at_call 31; (with_reducible refine (HB.out).mono ?_); rintro e w1 ⟨rfl, rfl⟩)
   go_ret
   exact ⟨rfl, H.out, Chg.refl _ _⟩
 | false =>
   rw [if_neg (by decide)]
   have HB := Hi (bload_f L 7 w ((h.obj.cell 7).trans (by unfold Led.cells; rw [hb]; rfl)))
   have ho' : Obj1 w L #[J I s.mw, J I s.mh, J I s.mb, J I s.mx, J I s.bt, J I s.pk, J I s.st, .int .u32 0, .int .u32 0, .int .i32 0, .int .u32 0, J I s.rs, J I s.ak] 86 := by
    have := h.obj; unfold Led.cells at this; rw [hb] at this; exact this
   have HR := Hi (fun n => (refuse_any L 1 n _ _ _ _ _ _ _ _ _ _ _ w ho').mono (R' := fun e w' => e = .returned (.bool false) ∧ LedAt w' L (s.refuse 1 n) ∧ Chg (· = L) w w') fun e w' hh => ⟨hh.1, ⟨hh.2.1, hok.b0, hok.b1, hok.b2, hok.s0, hok.s1, hok.s2⟩, hh.2.2⟩)
   obtain ⟨mw, hmw⟩ : ∃ m, s.mw = m := ⟨_, rfl⟩
   obtain ⟨mh, hmh⟩ : ∃ m, s.mh = m := ⟨_, rfl⟩
   rw [hmw] at c0
   rw [hmh] at c1
   rw [hmw, hmh]
   clear h hb ho' hok hmw hmh
   have hcase : (a < 1) ∨ (¬ a < 1 ∧ mw < a) ∨ (¬ a < 1 ∧ ¬ mw < a ∧ b < 1) ∨ (¬ a < 1 ∧ ¬ mw < a ∧ ¬ b < 1 ∧ mh < b) ∨ (¬ a < 1 ∧ ¬ mw < a ∧ ¬ b < 1 ∧ ¬ mh < b) := by omega
   rcases hcase with h1 | ⟨h1, h2⟩ | ⟨h1, h2, h3⟩ | ⟨h1, h2, h3, h4⟩ | ⟨h1, h2, h3, h4⟩
   · rw [if_pos (Or.inl h1)]
     go_enter Tryz.func80, Tryz.ntmps80
     go_wp2_with (first
      | ((with_reducible refine aE rfl ?_ ?_); rfl; intro _)
      | (go_at_call 31; (with_reducible refine (HB.out).mono ?_); rintro e w1 ⟨rfl, rfl⟩)
      | (go_at_call 124; (with_reducible refine (HR.out _).mono ?_); rintro e w1 ⟨rfl, hO, hC⟩))
     go_ret
     exact ⟨rfl, hO, hC⟩
   · rw [if_pos (Or.inr h2)]
     go_enter Tryz.func80, Tryz.ntmps80
     go_wp2_with (first
      | ((with_reducible refine aE rfl ?_ ?_); rfl; intro _)
      | (go_at_call 31; (with_reducible refine (HB.out).mono ?_); rintro e w1 ⟨rfl, rfl⟩)
      | (go_at_call 124; (with_reducible refine (HR.out _).mono ?_); rintro e w1 ⟨rfl, hO, hC⟩))
     go_ret
     exact ⟨rfl, hO, hC⟩
   · rw [if_neg (by omega), if_pos (Or.inl h3)]
     go_enter Tryz.func80, Tryz.ntmps80
     go_wp2_with (first
      | ((with_reducible refine aE rfl ?_ ?_); rfl; intro _)
      | (go_at_call 31; (with_reducible refine (HB.out).mono ?_); rintro e w1 ⟨rfl, rfl⟩)
      | (go_at_call 124; (with_reducible refine (HR.out _).mono ?_); rintro e w1 ⟨rfl, hO, hC⟩))
     go_ret
     exact ⟨rfl, hO, hC⟩
   · rw [if_neg (by omega), if_pos (Or.inr h4)]
     go_enter Tryz.func80, Tryz.ntmps80
     go_wp2_with (first
      | ((with_reducible refine aE rfl ?_ ?_); rfl; intro _)
      | (go_at_call 31; (with_reducible refine (HB.out).mono ?_); rintro e w1 ⟨rfl, rfl⟩)
      | (go_at_call 124; (with_reducible refine (HR.out _).mono ?_); rintro e w1 ⟨rfl, hO, hC⟩))
     go_ret
     exact ⟨rfl, hO, hC⟩
   · rw [if_neg (by omega), if_neg (by omega)]
     go_enter Tryz.func80, Tryz.ntmps80
     go_wp2_with (first
      | ((with_reducible refine aE rfl ?_ ?_); rfl; intro _)
      | (go_at_call 31; (with_reducible refine (HB.out).mono ?_); rintro e w1 ⟨rfl, rfl⟩))
     go_ret
     exact ⟨rfl, H.out, Chg.refl _ _⟩
def Led.give (s : Led) (n : Int) : Led × Bool := if n < 0 ∨ s.bt < n then (s, false) else ({ s with bt := s.bt - n }, true)
theorem Led.give_ok {s : Led} (h : s.ok) (n : Int) : (s.give n).1.ok := by
 obtain ⟨a, b, c, d, e, f⟩ := h
 unfold Led.give
 by_cases h2 : n < 0 ∨ s.bt < n
 · rw [if_pos h2]; exact ⟨a, b, c, d, e, f⟩
 · rw [if_neg h2]; exact ⟨by show 0 ≤ s.bt - n; omega, by show s.bt - n ≤ s.mb; omega, c, d, e, f⟩
theorem give_any (L : Nat) (s : Led) (n : Int) (w : World) (h : LedAt w L s) : Calls Tryz.prog 143 #[Y (some ⟨L, 0, none⟩), J I n] w fun e w' =>
 e = .returned (.bool (s.give n).2) ∧ LedAt w' L (s.give n).1 ∧ Chg (· = L) w w' := by
 have hk := Led.give_ok h.ok n
 have HL := Hi (aload64 L 4 s.bt w ((h.obj.cell 4).trans rfl))
 have HC := Hi (fun y => acas64 L 4 s.bt y w ((h.obj.cell 4).trans rfl) (h.obj.frozen 4))
 have H := Hi h
 have hb0 := h.ok.b0
 have hb1 := h.ok.b1
 have hb2 := h.ok.b2
 have FIN := Hi (fun (hh : ¬ (n < 0 ∨ s.bt < n)) => (show LedAt (w.setCell ⟨L, 4, none⟩ (J I (s.bt - n))) L (s.give n).1 from ⟨by unfold Led.give; rw [if_neg hh]; exact h.obj.set 4 _, hk⟩))
 have CH := Hi (fun v => (Chg.refl (· = L) w).set ⟨L, 4, none⟩ v (Or.inl rfl))
 have h' : (n < 0 ∨ s.bt < n) → (s.give n) = (s, false) := fun hh => by unfold Led.give; rw [if_pos hh]
 have h2' : ¬ (n < 0 ∨ s.bt < n) → (s.give n).2 = true := fun hh => by unfold Led.give; rw [if_neg hh]
 have HN := Hi h'
 have HY := Hi h2'
 clear h' h2' hk h
 obtain ⟨bt, hbt⟩ : ∃ b, s.bt = b := ⟨_, rfl⟩
 rw [hbt] at HL HC hb0 hb1 HN HY FIN
 clear hbt
 have hcase : (n < 0) ∨ (¬ n < 0 ∧ bt < n) ∨ (¬ n < 0 ∧ ¬ bt < n) := by omega
 rcases hcase with h1 | ⟨h1, h2⟩ | ⟨h1, h2⟩
 · rw [HN.out (Or.inl h1)]
   go_enter Tryz.func143, Tryz.ntmps143
   go_wp2
   refine wp_loop_rounds 1 ?_
   rw [rounds_succ]
   go_wp2_with (first
    | ((with_reducible refine aE rfl ?_ ?_); rfl; intro _)
    | (go_at_call 30; (with_reducible refine (HL.out).mono ?_); rintro e w1 ⟨rfl, rfl⟩))
   go_ret
   exact ⟨rfl, H.out, Chg.refl _ _⟩
 · rw [HN.out (Or.inr h2)]
   go_enter Tryz.func143, Tryz.ntmps143
   go_wp2
   refine wp_loop_rounds 1 ?_
   rw [rounds_succ]
   go_wp2_with (first
    | ((with_reducible refine aE rfl ?_ ?_); rfl; intro _)
    | (go_at_call 30; (with_reducible refine (HL.out).mono ?_); rintro e w1 ⟨rfl, rfl⟩))
   go_ret
   exact ⟨rfl, H.out, Chg.refl _ _⟩
 · rw [HY.out (by omega)]
   have FIN := Hi (FIN.out (by omega))
   go_enter Tryz.func143, Tryz.ntmps143
   go_wp2
   refine wp_loop_rounds 1 ?_
   rw [rounds_succ]
   go_wp2_with (first
    | ((with_reducible refine aE rfl ?_ ?_); rfl; intro _)
    | (go_at_call 30; (with_reducible refine (HL.out).mono ?_); rintro e w1 ⟨rfl, rfl⟩)
    | (go_at_call 165; (with_reducible refine (HC.out _).mono ?_); rintro e w3 ⟨rfl, rfl⟩))
   go_ret
   exact ⟨rfl, FIN.out, CH.out _⟩
theorem lbytes_any (L : Nat) (s : Led) (w : World) (h : LedAt w L s) : Calls Tryz.prog 12 #[Y (some ⟨L, 0, none⟩)] w fun e w' => e = .returned (J I s.bt) ∧ w = w' := by
 have HL := Hi (aload64 L 4 s.bt w ((h.obj.cell 4).trans rfl))
 have b1 := h.ok.b0
 clear h
 go_enter Tryz.func12, Tryz.ntmps12
 go_wp2_with (go_at_call 30; (with_reducible refine (HL.out).mono ?_); rintro e w1 ⟨rfl, rfl⟩)
 go_ret
 exact ⟨rfl, rfl⟩
def byteAt (v : Int) (j : Nat) : Int := v / 2 ^ (8 * j) % 256
def bytesF (v : Int) : Nat → List Int
 | 0 => []
 | n + 1 => bytesF v n ++ [byteAt v n]
theorem bytesF_len (v : Int) (n : Nat) : (bytesF v n).length = n := by induction n with | zero => rfl | succ n ih => simp [bytesF, ih]
def orLast (xs : List Int) (y : Int) : List Int := xs.set (xs.length - 1) (bits .or .u8 (xs.getD (xs.length - 1) 0) y)
def packF (l : List Int) (d : Nat) : Nat → List Int
 | 0 => []
 | k + 1 => if 8 ≤ d then packF l d k ++ bytesF (l.getD k 0) (d / 8)
   else if k * d % 8 = 0 then packF l d k ++ [l.getD k 0 * 2 ^ (8 - d) % 256] else orLast (packF l d k) (l.getD k 0 * 2 ^ (8 - d - k * d % 8) % 256)
theorem packF_wide (l : List Int) (d k : Nat) (h : 8 ≤ d) : packF l d (k + 1) = packF l d k ++ bytesF (l.getD k 0) (d / 8) := by rw [packF, if_pos h]
theorem packF_new (l : List Int) (d k : Nat) (h : d < 8) (h2 : k * d % 8 = 0) : packF l d (k + 1) = packF l d k ++ [l.getD k 0 * 2 ^ (8 - d) % 256] := by rw [packF, if_neg (by omega), if_pos h2]
theorem packF_old (l : List Int) (d k : Nat) (h : d < 8) (h2 : k * d % 8 ≠ 0) : packF l d (k + 1) = orLast (packF l d k) (l.getD k 0 * 2 ^ (8 - d - k * d % 8) % 256) := by rw [packF, if_neg (by omega), if_neg h2]
theorem packF_len (l : List Int) (d k : Nat) (hd : d = 1 ∨ d = 4 ∨ d = 8 ∨ d = 16 ∨ d = 24 ∨ d = 32) : (packF l d k).length = (k * d + 7) / 8 := by
 induction k with
 | zero => simp [packF]
 | succ k ih =>
   by_cases h : 8 ≤ d
   · rw [packF_wide l d k h, List.length_append, bytesF_len, ih]
     rcases hd with rfl | rfl | rfl | rfl | rfl | rfl <;> omega
   · by_cases h2 : k * d % 8 = 0
     · rw [packF_new l d k (by omega) h2, List.length_append, ih, Nat.add_mul]; simp
       rcases hd with rfl | rfl | rfl | rfl | rfl | rfl <;> omega
     · rw [packF_old l d k (by omega) h2, orLast, List.length_set, ih, Nat.add_mul]
       rcases hd with rfl | rfl | rfl | rfl | rfl | rfl <;> omega
def padF (xs : List Int) : List Int := xs ++ List.replicate ((4 - xs.length % 4) % 4) 0
def slLen : Value → Nat
 | .slice _ n _ => n
 | _ => 0
theorem owns_shape {w : World} {base e n : Nat} {v : Value} {xs : List Value} (h : w.ownsRow base e 1 v n xs) : ∃ a cap, v = .slice a n cap := by
 obtain ⟨hl, h2⟩ := h
 rcases h2 with ⟨rfl, rfl⟩ | ⟨g', cap', cur, hv', hg, hh, hn, hc, hs, ht⟩
 · exact ⟨none, 0, rfl⟩
 · exact ⟨_, _, hv'⟩
theorem owns_eq {w : World} {base e n n' : Nat} {v : Value} {xs xs' : List Value} (h : w.ownsRow base e 1 v n xs) (hn : n = n') (hx : xs = xs') : w.ownsRow base e 1 v n' xs' := by subst hn hx; exact h
theorem bytesF_succ (v : Int) (n : Nat) : bytesF v (n + 1) = bytesF v n ++ [byteAt v n] := rfl
theorem pad_done (xs : List Int) (j : Nat) (hj : j ≤ (4 - xs.length % 4) % 4) (h : (xs.length + j) % 4 = 0) : xs ++ List.replicate j 0 = padF xs := by
 unfold padF
 rw [show j = (4 - xs.length % 4) % 4 by omega]
structure Bf where
 L : Nat
 g : Nat
 d : List Int
 op : Bool
def Bf.cells (b : Bf) : List Value := [Y (some ⟨b.L, 0, none⟩), if b.op = true then .slice (some ⟨b.g, 0, none⟩) b.d.length b.d.length else .slice none 0 0, .int .u32 (if b.op = true then 0 else 1), .int .i32 0, .int .u32 0]
def aY (l : List Int) : List Value := l.map (.int .u8)
structure BufAt (w : World) (B : Nat) (b : Bf) : Prop where
 obj : Obj1 w B b.cells.toArray 204
 dat : b.op = true → Obj1 w b.g (aY b.d).toArray 5
 byt : ∀ x ∈ b.d, 0 ≤ x ∧ x < 256
 ne : B ≠ b.g
 nl : B ≠ b.L
 gl : b.g ≠ b.L
 sz : b.d.length ≤ 2147483648
theorem BufAt.chg {S : Nat → Prop} {w w' : World} {B : Nat} {b : Bf} (h : BufAt w B b) (hc : Chg S w w') (h1 : ¬ S B) (h2 : ¬ S b.g) : BufAt w' B b :=
 ⟨hc.obj h.obj h1, fun ho => hc.obj (h.dat ho) h2, h.byt, h.ne, h.nl, h.gl, h.sz⟩
theorem BufAt.c0 {w : World} {B : Nat} {b : Bf} (h : BufAt w B b) : w.cell? ⟨B, 0, none⟩ = some (Y (some ⟨b.L, 0, none⟩)) := (h.obj.cell 0).trans rfl
theorem BufAt.c1 {w : World} {B : Nat} {b : Bf} (h : BufAt w B b) (ho : b.op = true) : w.cell? ⟨B, 1, none⟩ = some (.slice (some ⟨b.g, 0, none⟩) b.d.length b.d.length) := (h.obj.cell 1).trans (by unfold Bf.cells; rw [if_pos ho]; rfl)
theorem BufAt.c1n {w : World} {B : Nat} {b : Bf} (h : BufAt w B b) (ho : b.op = false) : w.cell? ⟨B, 1, none⟩ = some (.slice none 0 0) := (h.obj.cell 1).trans (by unfold Bf.cells; rw [ho]; rfl)
theorem BufAt.lt {w : World} {B : Nat} {b : Bf} (h : BufAt w B b) : B < w.heap.size := h.obj.lt
theorem BufAt.glt {w : World} {B : Nat} {b : Bf} (h : BufAt w B b) (ho : b.op = true) : b.g < w.heap.size := (h.dat ho).lt
def Bf.there (b : Bf) (i n : Int) : Bool := b.op && decide (0 ≤ i) && decide (0 ≤ n) && decide (i ≤ b.d.length) && decide (n ≤ (b.d.length : Int) - i)
theorem bthere_any (B : Nat) (b : Bf) (i n : Int) (w : World) (h : BufAt w B b) (hi : i ≤ 4611686018427387904) : Calls Tryz.prog 201 #[Y (some ⟨B, 0, none⟩), J I i, J I n] w fun e w' => e = .returned (.bool (b.there i n)) ∧ w' = w := by
 have hsz := h.sz
 cases ho : b.op with
 | false =>
   have c1 := h.c1n ho
   have HT := Hi (show b.there i n = false by unfold Bf.there; rw [ho]; rfl)
   rw [HT.out]
   clear h ho
   go_enter Tryz.func201, Tryz.ntmps201
   go_wp2_with ((with_reducible refine aE rfl ?_ ?_); rfl; intro _)
   go_ret
   exact ⟨rfl, rfl⟩
 | true =>
   have c1 := h.c1 ho
   have HT : b.there i n = (decide (0 ≤ i) && decide (0 ≤ n) && decide (i ≤ b.d.length) && decide (n ≤ (b.d.length : Int) - i)) := by unfold Bf.there; rw [ho]; rfl
   obtain ⟨m, hm⟩ : ∃ m, b.d.length = m := ⟨_, rfl⟩
   rw [hm] at c1 HT hsz
   rw [HT]
   clear h ho hm HT
   have hcase : (i < 0) ∨ (¬ i < 0 ∧ n < 0) ∨ (¬ i < 0 ∧ ¬ n < 0 ∧ (m : Int) < i) ∨ (¬ i < 0 ∧ ¬ n < 0 ∧ ¬ (m : Int) < i ∧ (m : Int) - i < n) ∨ (¬ i < 0 ∧ ¬ n < 0 ∧ ¬ (m : Int) < i ∧ ¬ (m : Int) - i < n) := by omega
   rcases hcase with h1 | ⟨h1, h2⟩ | ⟨h1, h2, h3⟩ | ⟨h1, h2, h3, h4⟩ | ⟨h1, h2, h3, h4⟩
   · have HR := Hi (show (decide (0 ≤ i) && decide (0 ≤ n) && decide (i ≤ (m : Int)) && decide (n ≤ (m : Int) - i)) = false by rw [decide_eq_false (show ¬ 0 ≤ i by omega)]; rfl)
     rw [HR.out]
     go_enter Tryz.func201, Tryz.ntmps201
     go_wp2_with ((with_reducible refine aE rfl ?_ ?_); rfl; intro _)
     go_ret
     exact ⟨rfl, rfl⟩
   · have HR := Hi (show (decide (0 ≤ i) && decide (0 ≤ n) && decide (i ≤ (m : Int)) && decide (n ≤ (m : Int) - i)) = false by rw [decide_eq_false (show ¬ 0 ≤ n by omega), Bool.and_false]; rfl)
     rw [HR.out]
     go_enter Tryz.func201, Tryz.ntmps201
     go_wp2_with ((with_reducible refine aE rfl ?_ ?_); rfl; intro _)
     go_ret
     exact ⟨rfl, rfl⟩
   · have HR := Hi (show (decide (0 ≤ i) && decide (0 ≤ n) && decide (i ≤ (m : Int)) && decide (n ≤ (m : Int) - i)) = false by rw [decide_eq_false (show ¬ i ≤ (m : Int) by omega), Bool.and_false]; rfl)
     rw [HR.out]
     go_enter Tryz.func201, Tryz.ntmps201
     go_wp2_with ((with_reducible refine aE rfl ?_ ?_); rfl; intro _)
     go_ret
     exact ⟨rfl, rfl⟩
   · have HR := Hi (show (decide (0 ≤ i) && decide (0 ≤ n) && decide (i ≤ (m : Int)) && decide (n ≤ (m : Int) - i)) = false by rw [decide_eq_false (show ¬ n ≤ (m : Int) - i by omega), Bool.and_false])
     rw [HR.out]
     have g4 : ¬ n ≤ (m : Int) - i := by omega
     go_enter Tryz.func201, Tryz.ntmps201
     go_wp2_with ((with_reducible refine aE rfl ?_ ?_); rfl; intro _)
     go_ret
     exact ⟨rfl, rfl⟩
   · have HR := Hi (show (decide (0 ≤ i) && decide (0 ≤ n) && decide (i ≤ (m : Int)) && decide (n ≤ (m : Int) - i)) = true by rw [decide_eq_true (show 0 ≤ i by omega), decide_eq_true (show 0 ≤ n by omega), decide_eq_true (show i ≤ (m : Int) by omega), decide_eq_true (show n ≤ (m : Int) - i by omega)]; rfl)
     have g1 : 0 ≤ i := by omega
     have g2 : 0 ≤ n := by omega
     have g3 : i ≤ (m : Int) := by omega
     have g4 : n ≤ (m : Int) - i := by omega
     clear h1 h2 h3 h4
     rw [HR.out]
     go_enter Tryz.func201, Tryz.ntmps201
     go_wp2_with ((with_reducible refine aE rfl ?_ ?_); rfl; intro _)
     go_ret
     exact ⟨rfl, rfl⟩
def aI (n : Nat) : List Int := List.replicate n 0
theorem mkU8 (w : World) (n : Nat) (hn : n ≤ 2147483648) : (Instr.makeSlice 27 (J I n) (J I n)).run Tryz.prog w = .ok (.slice (some ⟨w.heap.size, 0, none⟩) n n) (w.alloc (.cells (aY (aI n)).toArray 5)) := by
 obtain ⟨i, hi, hz0, hz1, hz2⟩ := info_parts (P := Tryz.prog) (e := 5) (z := J U 0) (size := 1) (bytes := 1) (by kernel_rfl)
 have hr := run_make (P := Tryz.prog) w 27 5 i _ Tryz.underlying27 hi hz0 .i64 .i64 n n (by omega) (Int.le_refl _) (by rw [hz2]; omega) (by omega)
 rw [hr, hz1]
 have e : madeCells (Value.int .u8 0).cells (n * 1) = (aY (aI n)).toArray := by
  have h1 := toList_madeCells_one (Value.int .u8 0) n
  rw [Nat.mul_one]
  apply Array.ext'
  show (madeCells #[Value.int .u8 0] n).toList = _
  rw [h1]
  simp [aY, aI]
 simp only [Int.toNat_natCast]
 rw [e]
def MakePost (w : World) (L : Nat) (s : Led) (n : Int) (e : Ending) (w' : World) : Prop :=
 (if n < 0 then e = .returned (.tuple #[Y none, J I 1]) ∧ LedAt w' L s else
  if (s.take n).2 = false then e = .returned (.tuple #[Y none, J I 4]) ∧ LedAt w' L (s.take n).1 else
  ∃ B g, e = .returned (.tuple #[Y (some ⟨B, 0, none⟩), J I 0]) ∧ LedAt w' L (s.take n).1 ∧ BufAt w' B ⟨L, g, aI n.toNat, true⟩ ∧ w.heap.size ≤ B ∧ w.heap.size ≤ g) ∧ Chg (· = L) w w'
theorem bmake_any (L : Nat) (s : Led) (n : Int) (w : World) (h : LedAt w L s) (hn : n ≤ 2147483648) : Calls Tryz.prog 82 #[Y (some ⟨L, 0, none⟩), J I n] w (MakePost w L s n) := by
 have HL := Hi h
 by_cases h1 : n < 0
 · have HN := Hi h1
   clear h
   go_enter Tryz.func82, Tryz.ntmps82
   go_wp2_with ((with_reducible refine aE rfl ?_ ?_); rfl; intro _)
   go_ret2
   unfold MakePost
   rw [if_pos HN.out]
   exact ⟨⟨rfl, HL.out⟩, Chg.refl _ _⟩
 have HN := Hi (show ¬ n < 0 from h1)
 have HT := Hi (ltake_any L s n w h)
 have hlt := h.lt
 obtain ⟨n, rfl⟩ := Int.eq_ofNat_of_zero_le (show 0 ≤ n by omega)
 clear h
 cases hb : (s.take n).2 with
 | false =>
   have HT := Hi (HT.out.mono (R' := fun e w' => e = .returned (.bool false) ∧ LedAt w' L (s.take n).1 ∧ Chg (· = L) w w') fun e w' hh => by rw [hb] at hh; exact hh)
   have HB := Hi hb
   clear hb
   go_enter Tryz.func82, Tryz.ntmps82
   go_wp2_with (first
    | ((with_reducible refine aE rfl ?_ ?_); rfl; intro _)
    | (go_at_call 127; (with_reducible refine (HT.out).mono ?_); rintro e w1 ⟨rfl, hL, hC⟩))
   go_ret2
   unfold MakePost
   rw [if_neg (Int.not_lt.2 HN.out), if_pos HB.out]
   exact ⟨⟨rfl, hL⟩, hC⟩
 | true =>
   have HT := Hi (HT.out.mono (R' := fun e w' => e = .returned (.bool true) ∧ LedAt w' L (s.take n).1 ∧ Chg (· = L) w w') fun e w' hh => by rw [hb] at hh; exact hh)
   have HM := fun w0 => mkU8 w0 n (by omega)
   have HB := Hi hb
   clear hb
   go_enter Tryz.func82, Tryz.ntmps82
   go_wp2_with (first
    | ((with_reducible refine aE rfl ?_ ?_); rfl; intro _)
    | ((go_at_call 127; (with_reducible refine (HT.out).mono ?_); rintro e w1 ⟨rfl, hL, hC⟩); have H1 := Hi hL; have C1 := Hi hC; clear hL hC))
   go_ret2
   have hw := C1.out.size
   have hz : (aI n).length = n := by simp [aI]
   have hO := aA (w1.alloc (.cells (aY (aI n)).toArray 5)) (Bf.cells ⟨L, w1.heap.size, aI n, true⟩).toArray 204
   have hD := (aA w1 (aY (aI n)).toArray 5).alloc (.cells (Bf.cells ⟨L, w1.heap.size, aI n, true⟩).toArray 204)
   have eC : (Bf.cells ⟨L, w1.heap.size, aI n, true⟩).toArray = #[Y (some ⟨L, 0, none⟩), .slice (some ⟨w1.heap.size, 0, none⟩) n n, .int .u32 0, .int .i32 0, .int .u32 0] := by unfold Bf.cells; rw [hz]; rfl
   rw [eC] at hO hD
   rw [show (w1.alloc (.cells (aY (aI n)).toArray 5)).heap.size = w1.heap.size + 1 by simp] at hO
   have hll : L < w1.heap.size := H1.out.lt
   unfold MakePost
   rw [if_neg (Int.not_lt.2 HN.out), if_neg (by rw [HB.out]; decide)]
   refine ⟨⟨w1.heap.size + 1, w1.heap.size, rfl, ⟨(H1.out.obj.alloc _).alloc _, H1.out.ok⟩, ⟨by rw [show ((n : Int)).toNat = n from rfl, eC]; exact hO, fun _ => hD, ?_, by show w1.heap.size + 1 ≠ w1.heap.size; omega, by show w1.heap.size + 1 ≠ L; omega, by show w1.heap.size ≠ L; omega, by rw [show ((n : Int)).toNat = n from rfl]; show (aI n).length ≤ _; omega⟩, by omega, by omega⟩, (C1.out.alloc _).alloc _⟩
   intro x hx
   have : x = 0 := by
    have := List.eq_of_mem_replicate (show x ∈ List.replicate n (0 : Int) from hx)
    exact this
   subst this; decide
theorem Obj1.setU {w : World} {g : Nat} {L : List Int} {T : TypeId} (h : Obj1 w g (aY L).toArray T) (i : Nat) (x : Int) : Obj1 (w.setCell ⟨g, i, none⟩ (J U x)) g (aY (L.set i x)).toArray T := by
 have h1 := h.set i (J U x)
 rw [show (aY L).toArray.setIfInBounds i (J U x) = (aY (L.set i x)).toArray by unfold aY; rw [List.setIfInBounds_toArray, List.map_set]] at h1
 exact h1
theorem Bf.cells_len (b : Bf) (d : List Int) (h : d.length = b.d.length) : Bf.cells { b with d := d } = b.cells := by
 unfold Bf.cells; rw [h]
theorem BufAt.put {w w' : World} {B : Nat} {b : Bf} (h : BufAt w B b) (d : List Int) (hd : d.length = b.d.length) (hb : ∀ x ∈ d, 0 ≤ x ∧ x < 256) (hc : Chg (· = b.g) w w') (ho : Obj1 w' b.g (aY d).toArray 5) : BufAt w' B { b with d := d } :=
 ⟨by rw [Bf.cells_len b d hd]; exact hc.obj h.obj h.ne, fun _ => ho, hb, h.ne, h.nl, h.gl, by rw [show ({ b with d := d } : Bf).d.length = b.d.length from hd]; exact h.sz⟩
def Bf.set (b : Bf) (i v : Int) : Bf := if b.there i 1 = true then { b with d := b.d.set i.toNat v } else b
theorem bset_any (B : Nat) (b : Bf) (i v : Int) (w : World) (h : BufAt w B b) (hi : i ≤ 4611686018427387904) (hv : 0 ≤ v ∧ v < 256) : Calls Tryz.prog 177 #[Y (some ⟨B, 0, none⟩), J I i, J U v] w fun e w' =>
 e = .returned (.bool (b.there i 1)) ∧ BufAt w' B (b.set i v) ∧ Chg (· = b.g) w w' := by
 have HT := Hi (bthere_any B b i 1 w h hi)
 have H := Hi h
 unfold Bf.set
 cases ht : b.there i 1 with
 | false =>
   rw [ht] at HT
   rw [if_neg (by decide)]
   clear h ht
   go_enter Tryz.func177, Tryz.ntmps177
   go_wp2_with (go_at_call 201; (with_reducible refine (HT.out).mono ?_); rintro e w1 ⟨rfl, rfl⟩)
   go_ret
   exact ⟨rfl, H.out, Chg.refl _ _⟩
 | true =>
   rw [ht] at HT
   rw [if_pos rfl]
   have hx : b.op = true ∧ 0 ≤ i ∧ i ≤ b.d.length ∧ 1 ≤ (b.d.length : Int) - i := by
    unfold Bf.there at ht
    simp only [Bool.and_eq_true, decide_eq_true_eq] at ht
    exact ⟨ht.1.1.1.1, ht.1.1.1.2, ht.1.2, ht.2⟩
   obtain ⟨ho, h0, h1, h2⟩ := hx
   obtain ⟨i, rfl⟩ := Int.eq_ofNat_of_zero_le h0
   have hil : i < b.d.length := by omega
   have c1 := h.c1 ho
   have hD := h.dat ho
   have cI : w.cell? ⟨b.g, i, none⟩ = some (J U (b.d[i])) := by rw [hD.cell]; simp [aY, hil]
   have fI := hD.frozen i
   have FIN := Hi (show BufAt (w.setCell ⟨b.g, i, none⟩ (J U v)) B { b with d := b.d.set i v } from h.put _ (by rw [List.length_set]) (fun x hx => by
    rcases List.mem_or_eq_of_mem_set hx with hx | rfl
    · exact h.byt x hx
    · exact hv) ((Chg.refl _ w).set _ _ (Or.inl rfl)) (hD.setU i v))
   have CH := Hi ((Chg.refl (· = b.g) w).set ⟨b.g, i, none⟩ (J U v) (Or.inl rfl))
   obtain ⟨g, hg⟩ : ∃ g, b.g = g := ⟨_, rfl⟩
   obtain ⟨m, hm⟩ : ∃ m, b.d.length = m := ⟨_, rfl⟩
   rw [hg, hm] at c1
   rw [hg] at cI fI FIN CH ⊢
   rw [hm] at hil
   clear h ht ho h0 h1 h2 hD hg hm
   go_enter Tryz.func177, Tryz.ntmps177
   go_wp2_with (go_at_call 201; (with_reducible refine (HT.out).mono ?_); rintro e w1 ⟨rfl, rfl⟩)
   go_ret
   exact ⟨rfl, FIN.out, CH.out⟩
theorem copy_op {P : Program} {ops : Array Oper} {rest : List Oper} {o : Oper} {a : Act} {w w2 : World} {Q : Exit → Act → World → Prop} (hgd : o.guard = none) (d s : Operand) (dT sT : TypeId)
 (ho : o.op = .call { callee := .builtin .copy, args := #[d, s], argTypes := #[dT, sT] }) (x y v : Value) (hd : a.eval d = x) (hs : a.eval s = y) (hrun : ∀ ty, (Builtin.copy_ #[dT, sT] ty #[x, y]).run P w = .ok v w2)
 (h : wpList P ops Q rest (a.put o.dst v) w2) : wpList P ops Q (o :: rest) a w := by
 refine wpList_plain hgd fun K hK => ?_
 unfold Oper.wp
 simp [execOp, ho, resolve, invoke, builtin, hd, hs, hrun, Result.andThen]
 exact hK _ _ h
def bytesI (s : ByteArray) : List Int := s.data.toList.map fun b => (b.toNat : Int)
theorem bytesI_len (s : ByteArray) : (bytesI s).length = s.size := by unfold bytesI; rw [List.length_map]; rfl
theorem bytesI_byt (s : ByteArray) : ∀ x ∈ bytesI s, 0 ≤ x ∧ x < 256 := by
 intro x hx
 obtain ⟨b, _, rfl⟩ := List.mem_map.1 hx
 have := b.toNat_lt
 omega
theorem bytesI_cells (s : ByteArray) : Lib.byteCells s.data.toList = aY (bytesI s) := by unfold Lib.byteCells aY bytesI; rw [List.map_map]; rfl
def Bf.put (b : Bf) (i : Int) (s : ByteArray) : Bf := if b.there i s.size = true then { b with d := b.d.take i.toNat ++ (bytesI s ++ b.d.drop (i.toNat + s.size)) } else b
theorem fput_any (B : Nat) (b : Bf) (i : Int) (s : ByteArray) (w : World) (h : BufAt w B b) (hi : i ≤ 4611686018427387904) (hs : 0 < s.size) (hs2 : s.size ≤ 4611686018427387904) : Calls Tryz.prog 196 #[Y (some ⟨B, 0, none⟩), J I i, .string s] w fun e w' =>
 e = .returned (.bool (b.there i s.size)) ∧ BufAt w' B (b.put i s) ∧ Chg (· = b.g) w w' := by
 have HT := Hi (bthere_any B b i s.size w h hi)
 have H := Hi h
 unfold Bf.put
 cases ht : b.there i s.size with
 | false =>
   rw [ht] at HT
   rw [if_neg (by decide)]
   clear h ht
   go_enter Tryz.func196, Tryz.ntmps196
   go_wp2_with (go_at_call 201; (with_reducible refine (HT.out).mono ?_); rintro e w1 ⟨rfl, rfl⟩)
   go_ret
   exact ⟨rfl, H.out, Chg.refl _ _⟩
 | true =>
   rw [ht] at HT
   rw [if_pos rfl]
   have hx : b.op = true ∧ 0 ≤ i ∧ i ≤ b.d.length ∧ (s.size : Int) ≤ (b.d.length : Int) - i := by
    unfold Bf.there at ht
    simp only [Bool.and_eq_true, decide_eq_true_eq] at ht
    exact ⟨ht.1.1.1.1, ht.1.1.1.2, ht.1.2, ht.2⟩
   obtain ⟨ho, h0, h1, h2⟩ := hx
   obtain ⟨i, rfl⟩ := Int.eq_ofNat_of_zero_le h0
   have c1 := h.c1 ho
   have hD := h.dat ho
   rw [show ((i : Int)).toNat = i from rfl]
   have HCP := Hi (fun ty => Lib.run_copy_row_string (P := Tryz.prog) w 27 9 ty 5 b.g i (b.d.length - i) (b.d.length - i) s (aY b.d).toArray 5 Tryz.underlying27 (by kernel_rfl) hD (by omega) (by simp [aY]; omega))
   rw [bytesI_cells] at HCP
   have eN : (aY b.d).take i ++ aY (bytesI s) ++ (aY b.d).drop (i + s.size) = aY (b.d.take i ++ (bytesI s ++ b.d.drop (i + s.size))) := by unfold aY; rw [List.map_append, List.map_append, List.map_take, List.map_drop, List.append_assoc]
   have hO := setRow_heap w b.g _ (aY (b.d.take i ++ (bytesI s ++ b.d.drop (i + s.size)))).toArray 5 _ hD
   have hC : Chg (· = b.g) w (w.setRow b.g (aY (b.d.take i ++ (bytesI s ++ b.d.drop (i + s.size)))).toArray) := ⟨rfl, rfl, rfl, by simp [World.setRow], fun k hk hn => setRow_other w b.g k _ hn⟩
   have hl : (b.d.take i ++ (bytesI s ++ b.d.drop (i + s.size))).length = b.d.length := by rw [List.length_append, List.length_append, List.length_take, List.length_drop, bytesI_len]; omega
   have FIN := Hi (h.put _ hl (fun x hx => by
    rcases List.mem_append.1 hx with hx | hx
    · exact h.byt x (List.mem_of_mem_take hx)
    · rcases List.mem_append.1 hx with hx | hx
      · exact bytesI_byt s x hx
      · exact h.byt x (List.mem_of_mem_drop hx)) hC hO)
   have CH := Hi hC
   have HCP := Hi (fun ty => (HCP.out ty).trans (by rw [show (aY b.d).toArray.toList = aY b.d by simp, eN]))
   obtain ⟨m, hm⟩ : ∃ m, b.d.length = m := ⟨_, rfl⟩
   obtain ⟨w2, hw2⟩ : ∃ w2, w.setRow b.g (aY (b.d.take i ++ (bytesI s ++ b.d.drop (i + s.size)))).toArray = w2 := ⟨_, rfl⟩
   rw [hw2] at HCP FIN CH
   obtain ⟨g, hg⟩ : ∃ g, b.g = g := ⟨_, rfl⟩
   rw [hg, hm] at c1 HCP
   rw [hg] at CH FIN ⊢
   rw [hm] at h1 h2
   clear h ht ho h0 hD hC hO hl eN hw2 hg hm
   go_enter Tryz.func196, Tryz.ntmps196
   go_wp2_with (first
    | (go_at_call 201; (with_reducible refine (HT.out).mono ?_); rintro e w1 ⟨rfl, rfl⟩)
    | (refine copy_op rfl (.tmp 18) (.tmp 19) 27 9 rfl (.slice (some ⟨g, i, none⟩) (m - i) (m - i)) (.string s) _ rfl rfl HCP.out ?_))
   go_ret
   exact ⟨rfl, FIN.out, CH.out⟩
def Bf.get (b : Bf) (i n : Int) : ByteArray := if b.there i n = true then strOf ((b.d.drop i.toNat).take n.toNat) else ByteArray.empty
theorem part_string {P : Program} {w : World} {g : Nat} {d : List Int} {T : TypeId} (h : Obj1 w g (aY d).toArray T) (i n c : Nat) (hn : i + n ≤ d.length) (src dst e' : TypeId)
 (hs : P.underlying src = some (.slice e')) (he : P.underlying e' = some (.int .u8)) (hd : P.underlying dst = some .string) : (convert src dst (.slice (some ⟨g, i, none⟩) n c)).run P w = .ok (.string (strOf ((d.drop i).take n))) w := by
 rw [run_convert_bytes_string w src dst e' _ n c hs he hd]
 have hl : ((d.drop i).take n).length = n := by rw [List.length_take, List.length_drop]; omega
 refine run_bytesToString w _ n c ((d.drop i).take n) ?_
 have := run_loadCells_list (P := P) w ⟨g, i, none⟩ (((d.drop i).take n).map (Value.int .u8)) (fun j v hv => by
  rw [Addr.add_mid, h.cell]
  rw [List.getElem?_map] at hv
  have hj : j < n := by
   rcases Nat.lt_or_ge j n with hj | hj
   · exact hj
   · rw [List.getElem?_eq_none (by omega)] at hv; cases hv
  rw [List.getElem?_take, if_pos hj, List.getElem?_drop] at hv
  simp only [aY, List.getElem?_toArray, List.getElem?_map]
  exact hv)
 rw [List.length_map, hl] at this; exact this
theorem bget_any (B : Nat) (b : Bf) (i n : Int) (w : World) (h : BufAt w B b) (hi : i ≤ 4611686018427387904) (hnp : 0 < n) : Calls Tryz.prog 180 #[Y (some ⟨B, 0, none⟩), J I i, J I n] w fun e w' =>
 e = .returned (.tuple #[.string (b.get i n), .bool (b.there i n)]) ∧ w' = w := by
 have HT := Hi (bthere_any B b i n w h hi)
 unfold Bf.get
 cases ht : b.there i n with
 | false =>
   rw [ht] at HT
   rw [if_neg (by decide)]
   clear h ht
   go_enter Tryz.func180, Tryz.ntmps180
   go_wp2_with (go_at_call 201; (with_reducible refine (HT.out).mono ?_); rintro e w1 ⟨rfl, rfl⟩)
   go_ret2
   exact ⟨rfl, rfl⟩
 | true =>
   rw [ht] at HT
   rw [if_pos rfl]
   have hsz := h.sz
   have hx : b.op = true ∧ 0 ≤ i ∧ 0 ≤ n ∧ i ≤ b.d.length ∧ n ≤ (b.d.length : Int) - i := by
    unfold Bf.there at ht
    simp only [Bool.and_eq_true, decide_eq_true_eq] at ht
    exact ⟨ht.1.1.1.1, ht.1.1.1.2, ht.1.1.2, ht.1.2, ht.2⟩
   obtain ⟨ho, h0, hn0, h1, h2⟩ := hx
   obtain ⟨i, rfl⟩ := Int.eq_ofNat_of_zero_le h0
   obtain ⟨n, rfl⟩ := Int.eq_ofNat_of_zero_le hn0
   have c1 := h.c1 ho
   have hin : i + n ≤ b.d.length := by omega
   have hnp2 : 0 < n := by omega
   have him : i < b.d.length := by omega
   obtain ⟨R, hR⟩ : ∃ R, strOf ((b.d.drop i).take n) = R := ⟨_, rfl⟩
   have HR := fun c => part_string (P := Tryz.prog) (h.dat ho) i n c hin 27 9 5 Tryz.underlying27 Tryz.underlying5 Tryz.underlying9
   rw [hR] at HR
   rw [show ((i : Int)).toNat = i from rfl, show ((n : Int)).toNat = n from rfl, hR]
   obtain ⟨m, hm⟩ : ∃ m, b.d.length = m := ⟨_, rfl⟩
   obtain ⟨g, hg⟩ : ∃ g, b.g = g := ⟨_, rfl⟩
   rw [hg, hm] at c1
   rw [hg] at HR
   rw [hm] at h1 h2 hin hsz him
   have hci : m - i ≠ 0 := by omega
   clear h ht ho h0 hn0 hR hg hm
   go_enter Tryz.func180, Tryz.ntmps180
   go_wp2_with (go_at_call 201; (with_reducible refine (HT.out).mono ?_); rintro e w1 ⟨rfl, rfl⟩)
   go_ret2
   exact ⟨rfl, rfl⟩
end Go.Proofs.YtfchnibjjokmbaaGreat

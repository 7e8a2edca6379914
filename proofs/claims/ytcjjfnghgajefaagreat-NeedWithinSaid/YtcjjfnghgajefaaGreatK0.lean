/- Small facts that every text of this seat leans on: bits of machine integers, worlds behind calls. No program in sight. -/
import Derived.WalkKit
import Derived.WalkSpells
import Derived.WalkLawsBesides
import Derived.Handy
import Derived.Lib.Hide
import Derived.Deep.QuietTactic
import Derived.BigQuiet
import Derived.Deep.MidRow
import Derived.Test.YtcjjfnghgajefaaGreatProg
import Derived.Laws.LoneSync
import Derived.RegionCalls
import Derived.Defers
import Derived.StillTailTactics
import Derived.Lib.EndianBits
namespace Go.Proofs.YtcjjfnghgajefaaGreat
theorem Hi {p : Prop} (h : p) : Go.RowKit.Hid p := h
open Go.RowKit
theorem zq1 {α : Type} (l : List α) (i : Nat) (a : α) : l.toArray.setIfInBounds i a = (l.set i a).toArray := List.setIfInBounds_toArray ..
theorem zq2 {α : Type} {a b : α} {l : List α} : (a :: l).set 0 b = b :: l := rfl
theorem zq3 {α : Type} {a b : α} {l : List α} {n : Nat} : (a :: l).set (n + 1) b = a :: l.set n b := rfl
theorem zq4 {α : Type} {l : List α} {i : Nat} (h : i < l.toArray.size) : l.toArray[i] = l[i]'(by simpa using h) := rfl
theorem zq5 {α : Type} {a : α} {l : List α} (h : 0 < (a :: l).length) : (a :: l)[0] = a := rfl
theorem zq6 {α : Type} {a : α} {l : List α} {i : Nat} (h : i + 1 < (a :: l).length) : (a :: l)[i + 1] = l[i]'(by simpa using h) := rfl
set_option linter.unusedVariables false

theorem bcell {W w1 : World} {B : Nat} (hb : Below B W w1) : (∀ b o, b < B → w1.cell? ⟨b, o, none⟩ = W.cell? ⟨b, o, none⟩) ∧ (∀ b o, b < B → w1.frozen? ⟨b, o, none⟩ = W.frozen? ⟨b, o, none⟩) :=
  ⟨fun b o h => hb.cell (p := ⟨b, o, none⟩) h, fun b o h => hb.frozen (p := ⟨b, o, none⟩) h⟩
theorem bthen {B n : Nat} {a b c : World} (hb : Below n b c) (h : Below B a b) (hn : B ≤ n) : Below B a c := h.trans (hb.mono hn)
def rd (w : World) (r o : Nat) : Value := (w.cell? ⟨r, o, none⟩).getD undef
abbrev Slot (r n : Nat) (w' : World) : Prop := (∀ o, w'.frozen? ⟨r, o, none⟩ = false) ∧ (∀ o, o < n → w'.cell? ⟨r, o, none⟩ = some (rd w' r o)) ∧ r < w'.heap.size
theorem slot_of {r n : Nat} {w : World} (h : ∀ o, w.frozen? ⟨r, o, none⟩ = false) (hc : ∀ o, o < n → ∃ v, w.cell? ⟨r, o, none⟩ = some v) (hr : r < w.heap.size) : Slot r n w :=
  ⟨h, fun o ho => by obtain ⟨v, hv⟩ := hc o ho; unfold rd; rw [hv]; rfl, hr⟩
theorem slot_set {r n : Nat} {w : World} (h : Slot r n w) (a : Addr) (u : Value) : Slot r n (w.setCell a u) :=
  slot_of (fun o => by rw [World.frozen?_setCell]; exact h.1 o) (fun o ho => cell?_setCell_some (h.2.1 o ho)) (by simpa [World.setCell] using h.2.2)
theorem below_setCells {B b : Nat} {a : World} (hb : B ≤ b) : ∀ (vs : List Value) (o : Nat) (w : World), Below B a w → Below B a (w.setCells b o vs)
  | [], _, _, h => h
  | v :: r, o, w, h => below_setCells hb r (o + 1) _ (h.setCell hb v)
theorem store_mid {P : Program} {ops : Array Oper} {rest : List Oper} {op : Oper} {a : Act} {w : World} {Q : Exit → Act → World → Prop} (hgd : op.guard = none) (ty : TypeId) (x y : Operand) (ho : op.op = .store ty x y)
    (b o : Nat) (cells : Array Value) (hx : a.eval x = .pointer (some ⟨b, o, none⟩)) (hy : a.eval y = .agg cells)
    (ht : w.there b o cells.size) (hi : (P.info? ty).map (·.size) = some cells.size) (h1 : cells.toList.all (·.oneCell') = true)
    (h : wpList P ops Q rest (a.put op.dst undef) (w.setCells b o cells.toList)) : wpList P ops Q (op :: rest) a w :=
  wpList_store_mid hgd ty x y ho b o cells hx hy ht hi (by rw [← Array.all_toList]; exact h1) h
theorem ret_int {k : IntKind} {a b : Int} (h : a = b) : Ending.returned (.int k a) = .returned (.int k b) := by rw [h]
theorem bdrew {B : Nat} {a w : World} (h : Below B a w) (n : Nat) : Below B a (w.drewN n) := by
  induction n generalizing w with
  | zero => exact h
  | succ n ih => exact (ih h).drew
/-! ### bits of an int -/
theorem i64_wrap_id (n : Int) (h₀ : 0 ≤ n) (h₁ : n < 2 ^ 63) : IntKind.i64.wrap n = n := by rw [IntKind.wrap_i64]; omega
theorem pow_pos' (i : Nat) : (0 : Int) < 2 ^ i := Int.pow_pos (by decide)
theorem pow_le' {i j : Nat} (h : i ≤ j) : (2 : Int) ^ i ≤ 2 ^ j := by
  have : (2 : Nat) ^ i ≤ 2 ^ j := Nat.pow_le_pow_right (by decide) h
  exact_mod_cast this
end Go.Proofs.YtcjjfnghgajefaaGreat
namespace Go.Proofs.YtcjjfnghgajefaaGreat
open Go.RowKit
def Stored (w : World) (b o : Nat) (vs : List Value) (w2 : World) : Prop := w2 = w.setCells b o vs
theorem store_gen {P : Program} {ops : Array Oper} {rest : List Oper} {op : Oper} {a : Act} {w : World} {Q : Exit → Act → World → Prop} (hgd : op.guard = none) (ty : TypeId) (x y : Operand) (ho : op.op = .store ty x y)
    (b o : Nat) (cells : Array Value) (hx : a.eval x = .pointer (some ⟨b, o, none⟩)) (hy : a.eval y = .agg cells)
    (ht : w.there b o cells.size) (hi : (P.info? ty).map (·.size) = some cells.size) (h1 : cells.toList.all (·.oneCell') = true)
    (h : ∀ w2, Stored w b o cells.toList w2 → wpList P ops Q rest (a.put op.dst undef) w2) : wpList P ops Q (op :: rest) a w :=
  store_mid hgd ty x y ho b o cells hx hy ht hi h1 (h _ rfl)
theorem Stored.below {w w2 a : World} {b o B : Nat} {vs : List Value} (h : Stored w b o vs w2) (hb : Below B a w) (hB : B ≤ b) : Below B a w2 := by
  rw [show w2 = _ from h]; exact below_setCells hB vs o w hb
theorem Stored.cell {w w2 : World} {b o : Nat} {vs : List Value} (h : Stored w b o vs w2) (b' o' : Nat) (hn : b' ≠ b ∨ o' < o ∨ o + vs.length ≤ o') : w2.cell? ⟨b', o', none⟩ = w.cell? ⟨b', o', none⟩ := by
  rw [show w2 = _ from h]
  exact World.cell?_setCells_out b vs o w _ (fun e _ => by rcases hn with hn | hn; · exact absurd e hn
                                                           · exact hn)
theorem Stored.frozen {w w2 : World} {b o : Nat} {vs : List Value} (h : Stored w b o vs w2) (a : Addr) : w2.frozen? a = w.frozen? a := by
  rw [show w2 = _ from h]; exact World.frozen?_setCells ..
theorem Stored.size {w w2 : World} {b o : Nat} {vs : List Value} (h : Stored w b o vs w2) : w2.heap.size = w.heap.size := by
  rw [show w2 = _ from h]; clear h
  induction vs generalizing w o with
  | nil => rfl
  | cons v r ih => rw [World.setCells, ih]; simp [World.setCell]
theorem Stored.slot {w w2 : World} {b o r n : Nat} {vs : List Value} (h : Stored w b o vs w2) (hs : Slot r n w) : Slot r n w2 := by
  rw [show w2 = _ from h]; clear h
  induction vs generalizing w o with
  | nil => exact hs
  | cons v rs ih => rw [World.setCells]; exact ih (slot_set hs _ _)
theorem results_c {P : Program} {fn : Func} {p : Tmp} {ty : TypeId} (h : fn.results = #[.cell p ty]) (tmps : Array Value) (w : World) (b : Nat) (cs : List Value) (d : TypeDesc)
    (hp : tmps.getD p undef = .pointer (some ⟨b, 0, none⟩)) (R : w.rangeAt b 0 cs) (hu : P.underlying ty = some d) (hd : d.isRow = true) (hi : (P.info? ty).map (·.size) = some cs.length) :
    (results fn tmps).run P w = .ok (.agg cs.toArray) w := by
  have hp' : tmps[p]?.getD undef = .pointer (some ⟨b, 0, none⟩) := by simpa using hp
  simp [results, h, hp', asAddr, run_loadVar_mid w b 0 ty cs d R hu hd hi]
end Go.Proofs.YtcjjfnghgajefaaGreat
namespace Go.Proofs.YtcjjfnghgajefaaGreat
open Go.RowKit
set_option linter.unusedVariables false
def Obj1 (w : World) (b : Nat) (cs : Array Value) (T : TypeId) : Prop := w.heap[b]? = some (.cells cs T (0, 0))
theorem Obj1.cell {w : World} {b : Nat} {cs : Array Value} {T : TypeId} (h : Obj1 w b cs T) (i : Nat) : w.cell? ⟨b, i, none⟩ = cs[i]? := by
  unfold Obj1 at h; simp [World.cell?, h]
theorem Obj1.frozen {w : World} {b : Nat} {cs : Array Value} {T : TypeId} (h : Obj1 w b cs T) (i : Nat) : w.frozen? ⟨b, i, none⟩ = false := by
  unfold Obj1 at h; simp [World.frozen?, h]
theorem Obj1.lt {w : World} {b : Nat} {cs : Array Value} {T : TypeId} (h : Obj1 w b cs T) : b < w.heap.size := (Array.getElem?_eq_some_iff.1 h).1
theorem Obj1.set {w : World} {b : Nat} {cs : Array Value} {T : TypeId} (h : Obj1 w b cs T) (i : Nat) (v : Value) : Obj1 (w.setCell ⟨b, i, none⟩ v) b (cs.setIfInBounds i v) T := by
  unfold Obj1 at h ⊢; simp [World.setCell, Array.getElem?_modify, h]
theorem Obj1.set_other {w : World} {b : Nat} {cs : Array Value} {T : TypeId} (h : Obj1 w b cs T) (a : Addr) (v : Value) (hn : b ≠ a.block) : Obj1 (w.setCell a v) b cs T := by
  unfold Obj1 at h ⊢; rw [Below.heap_setCell _ _ _ _ hn]; exact h
theorem Obj1.alloc {w : World} {b : Nat} {cs : Array Value} {T : TypeId} (h : Obj1 w b cs T) (o : Obj) : Obj1 (w.alloc o) b cs T := by
  have hl := h.lt
  unfold Obj1 at h ⊢; rw [Below.heap_alloc _ _ _ hl]; exact h
theorem Obj1.drew {w : World} {b : Nat} {cs : Array Value} {T : TypeId} (h : Obj1 w b cs T) : Obj1 w.drew b cs T := h
theorem drewN_heap (w : World) (n : Nat) : (w.drewN n).heap = w.heap := by
  induction n generalizing w with
  | zero => rfl
  | succ n ih => exact ih w.drew
theorem Obj1.drewN {w : World} {b : Nat} {cs : Array Value} {T : TypeId} (h : Obj1 w b cs T) (n : Nat) : Obj1 (w.drewN n) b cs T := by
  unfold Obj1 at h ⊢; rw [drewN_heap]; exact h
theorem obj1_new (w : World) (cs : Array Value) (T : TypeId) : Obj1 (w.alloc (.cells cs T)) w.heap.size cs T := heap_alloc_new w _
theorem Obj1.below {w w' : World} {b B : Nat} {cs : Array Value} {T : TypeId} (h : Obj1 w b cs T) (hb : Below B w w') (hlt : b < B) : Obj1 w' b cs T := by
  unfold Obj1 at h ⊢; rw [hb.block b hlt]; exact h
structure Chg (S : Nat → Prop) (w w' : World) : Prop where
  os : w'.os = w.os
  tape : w'.tape = w.tape
  output : w'.output = w.output
  size : w.heap.size ≤ w'.heap.size
  block : ∀ k, k < w.heap.size → ¬ S k → w'.heap[k]? = w.heap[k]?
theorem Chg.refl (S : Nat → Prop) (w : World) : Chg S w w := ⟨rfl, rfl, rfl, Nat.le_refl _, fun _ _ _ => rfl⟩
theorem Chg.trans {S : Nat → Prop} {a b c : World} (h : Chg S a b) (k : Chg S b c) : Chg S a c :=
  ⟨k.os.trans h.os, k.tape.trans h.tape, k.output.trans h.output, Nat.le_trans h.size k.size, fun i hi hs => (k.block i (Nat.lt_of_lt_of_le hi h.size) hs).trans (h.block i hi hs)⟩
theorem Chg.mono {S S' : Nat → Prop} {w w' : World} (h : Chg S w w') (hS : ∀ k, k < w.heap.size → S k → S' k) : Chg S' w w' := ⟨h.os, h.tape, h.output, h.size, fun k hk hn => h.block k hk (fun hs => hn (hS k hk hs))⟩
theorem Chg.drew {S : Nat → Prop} {a w : World} (h : Chg S a w) : Chg S a w.drew := ⟨h.os, h.tape, h.output, h.size, h.block⟩
theorem Chg.drewN {S : Nat → Prop} {a w : World} (h : Chg S a w) (n : Nat) : Chg S a (w.drewN n) := by
  induction n with
  | zero => exact h
  | succ n ih => exact ih.drew
theorem Chg.set {S : Nat → Prop} {a w : World} (h : Chg S a w) (p : Addr) (v : Value) (hp : S p.block ∨ a.heap.size ≤ p.block) : Chg S a (w.setCell p v) :=
  ⟨h.os, h.tape, h.output, by simpa [World.setCell] using h.size, fun k hk hn => by
    rw [Below.heap_setCell _ _ _ _ (fun e => by subst e; rcases hp with hp | hp; · exact hn hp
                                                · omega)]
    exact h.block k hk hn⟩
theorem Chg.alloc {S : Nat → Prop} {a w : World} (h : Chg S a w) (o : Obj) : Chg S a (w.alloc o) :=
  ⟨h.os, h.tape, h.output, Nat.le_trans h.size (by simp), fun k hk hn => (Below.heap_alloc _ _ _ (Nat.lt_of_lt_of_le hk h.size)).trans (h.block k hk hn)⟩
theorem chg_of_below {w w' : World} (h : Below w.heap.size w w') (S : Nat → Prop) : Chg S w w' := ⟨h.os, h.tape, h.output, h.size, fun k hk _ => h.block k hk⟩
theorem Chg.below {S : Nat → Prop} {w w' : World} (h : Chg S w w') {B : Nat} (hB : B ≤ w.heap.size) (hS : ∀ k, S k → B ≤ k) : Below B w w' :=
  ⟨h.os, h.tape, h.output, h.size, fun k hk => h.block k (by omega) (fun hs => by have := hS k hs; omega)⟩
theorem Chg.obj {S : Nat → Prop} {w w' : World} (h : Chg S w w') {b : Nat} {cs : Array Value} {T : TypeId} (ho : Obj1 w b cs T) (hn : ¬ S b) : Obj1 w' b cs T := by
  have hl := ho.lt
  unfold Obj1 at ho ⊢; rw [h.block b hl hn]; exact ho
theorem Chg.cell {S : Nat → Prop} {w w' : World} (h : Chg S w w') {b o : Nat} (hb : b < w.heap.size) (hn : ¬ S b) : w'.cell? ⟨b, o, none⟩ = w.cell? ⟨b, o, none⟩ := World.cell?_of_block (w := w) (h.block b hb hn)
theorem bchg {B : Nat} {a b c : World} (h : Below B a b) {S : Nat → Prop} (k : Chg S b c) (hB : B ≤ b.heap.size) (hS : ∀ k, S k → B ≤ k) : Below B a c := h.trans (k.below hB hS)
theorem aload64 (L o : Nat) (v : Int) (w : World) (hc : w.cell? ⟨L, o, none⟩ = some (.int .i64 v)) : Calls Tryz.prog 136 #[.pointer (some ⟨L, o, none⟩)] w fun e w' => e = .returned (.int .i64 v) ∧ w = w' := by
  have hl := run_call_load (P := Tryz.prog) Tryz.func144 (by kernel_rfl) (by kernel_rfl) (by kernel_rfl) .i64 (by kernel_rfl) hc
  go_enter Tryz.func136, Tryz.ntmps136
  go_wp2
  go_ret
  exact ⟨rfl, rfl⟩
theorem bload_f (L o : Nat) (w : World) (hc : w.cell? ⟨L, o, none⟩ = some (.int .u32 0)) : Calls Tryz.prog 116 #[.pointer (some ⟨L, o, none⟩)] w fun e w' => e = .returned (.bool false) ∧ w = w' := by
  have hl := run_call_load (P := Tryz.prog) Tryz.func131 (by kernel_rfl) (by kernel_rfl) (by kernel_rfl) .u32 (by kernel_rfl) hc
  go_enter Tryz.func116, Tryz.ntmps116
  go_wp2
  go_ret
  exact ⟨rfl, rfl⟩
theorem bload_t (L o : Nat) (w : World) (hc : w.cell? ⟨L, o, none⟩ = some (.int .u32 1)) : Calls Tryz.prog 116 #[.pointer (some ⟨L, o, none⟩)] w fun e w' => e = .returned (.bool true) ∧ w = w' := by
  have hl := run_call_load (P := Tryz.prog) Tryz.func131 (by kernel_rfl) (by kernel_rfl) (by kernel_rfl) .u32 (by kernel_rfl) hc
  go_enter Tryz.func116, Tryz.ntmps116
  go_wp2
  go_ret
  exact ⟨rfl, rfl⟩
theorem acas64 (L o : Nat) (v y : Int) (w : World) (hc : w.cell? ⟨L, o, none⟩ = some (.int .i64 v)) (hz : w.frozen? ⟨L, o, none⟩ = false) :
    Calls Tryz.prog 138 #[.pointer (some ⟨L, o, none⟩), .int .i64 v, .int .i64 y] w fun e w' => e = .returned (.bool true) ∧ w.setCell ⟨L, o, none⟩ (.int .i64 y) = w' := by
  have hcas := run_call_cas_hit (P := Tryz.prog) Tryz.func148 (by kernel_rfl) (by kernel_rfl) (by kernel_rfl) .i64 (by kernel_rfl) (y := y) hc hz
  go_enter Tryz.func138, Tryz.ntmps138
  go_wp2
  go_ret
  exact ⟨rfl, rfl⟩
theorem add_ok (L o : Nat) (n most reason was : Int) (w : World) (hbr : w.cell? ⟨L, 7, none⟩ = some (.int .u32 0)) (hc : w.cell? ⟨L, o, none⟩ = some (.int .i64 was)) (hz : w.frozen? ⟨L, o, none⟩ = false)
    (h0 : 0 ≤ n) (h1 : n ≤ most - was) (h2 : 0 ≤ was) (h3 : was ≤ most) (h4 : most ≤ 9223372036854775807) :
    Calls Tryz.prog 130 #[.pointer (some ⟨L, 0, none⟩), .pointer (some ⟨L, o, none⟩), .int .i64 n, .int .i64 most, .int .i64 reason] w fun e w' => e = .returned (.bool true) ∧ w.setCell ⟨L, o, none⟩ (.int .i64 (was + n)) = w' := by
  go_enter Tryz.func130, Tryz.ntmps130
  go_wp2
  refine wp_loop_rounds 1 ?_
  rw [rounds_succ]
  go_wp2_with (first
    | (go_at_call 116; (with_reducible refine (bload_f _ _ _ (by assumption)).mono ?_); rintro e w1 ⟨rfl, rfl⟩)
    | (go_at_call 136; (with_reducible refine (aload64 _ _ _ _ (by assumption)).mono ?_); rintro e w1 ⟨rfl, rfl⟩)
    | (go_at_call 138; (with_reducible refine (acas64 _ _ _ _ _ (by assumption) (by assumption)).mono ?_); rintro e w1 ⟨rfl, rfl⟩))
  go_ret
  exact ⟨rfl, rfl⟩
theorem add_broken (L o : Nat) (n most reason : Int) (w : World) (hbr : w.cell? ⟨L, 7, none⟩ = some (.int .u32 1)) :
    Calls Tryz.prog 130 #[.pointer (some ⟨L, 0, none⟩), .pointer (some ⟨L, o, none⟩), .int .i64 n, .int .i64 most, .int .i64 reason] w fun e w' => e = .returned (.bool false) ∧ w = w' := by
  go_enter Tryz.func130, Tryz.ntmps130
  go_wp2
  refine wp_loop_rounds 1 ?_
  rw [rounds_succ]
  go_wp2_with (first
    | (go_at_call 116; (with_reducible refine (bload_t _ _ _ (by assumption)).mono ?_); rintro e w1 ⟨rfl, rfl⟩))
  go_ret
  exact ⟨rfl, rfl⟩
set_option maxRecDepth 100000 in
theorem work_ok (L : Nat) (n most was : Int) (w : World) (hbr : w.cell? ⟨L, 7, none⟩ = some (.int .u32 0)) (hm : w.cell? ⟨L, 3, none⟩ = some (.int .i64 most)) (hc : w.cell? ⟨L, 6, none⟩ = some (.int .i64 was)) (hz : w.frozen? ⟨L, 6, none⟩ = false)
    (h0 : 0 ≤ n) (h1 : n ≤ most - was) (h2 : 0 ≤ was) (h3 : was ≤ most) (h4 : most ≤ 9223372036854775807) :
    Calls Tryz.prog 115 #[.pointer (some ⟨L, 0, none⟩), .int .i64 n] w fun e w' => e = .returned (.bool true) ∧ ∃ k, (w.drewN k).setCell ⟨L, 6, none⟩ (.int .i64 (was + n)) = w' := by
  have HA := Hi (fun k => add_ok L 6 n most 3 was (w.drewN k) (by rw [World.cell?_drewN]; exact hbr) (by rw [World.cell?_drewN]; exact hc) (by rw [World.frozen?_drewN]; exact hz) h0 h1 h2 h3 h4)
  clear h0 h1 h2 h3 h4
  go_enter Tryz.func115, Tryz.ntmps115
  go_wp2
  go_still_tail 10, (by kernel_rfl)
  rw [show (⟨w.heap, w.tape, w.drawn + 1, w.os, w.output⟩ : World) = w.drewN 1 from rfl]
  go_wp2_with (go_at_call 130; (with_reducible refine (HA.out 1).mono ?_); rintro e w1 ⟨rfl, rfl⟩)
  go_ret
  exact ⟨rfl, 1, rfl⟩
theorem c_disable (w : World) : (callFunc 157 #[]).run Tryz.prog w = .ok (.value (.tuple #[])) w := run_call_mark0 Tryz.func157 (by kernel_rfl) (by kernel_rfl) (by kernel_rfl) .disable (by kernel_rfl) w
theorem c_enable (w : World) : (callFunc 159 #[]).run Tryz.prog w = .ok (.value (.tuple #[])) w := run_call_mark0 Tryz.func159 (by kernel_rfl) (by kernel_rfl) (by kernel_rfl) .enable (by kernel_rfl) w
theorem c_acquire (a : Addr) (w : World) : (callFunc 160 #[.pointer (some a)]).run Tryz.prog w = .ok (.value (.tuple #[])) w := run_call_marked Tryz.func160 (by kernel_rfl) (by kernel_rfl) (by kernel_rfl) .acquire (by kernel_rfl) a w
theorem c_release (a : Addr) (w : World) : (callFunc 162 #[.pointer (some a)]).run Tryz.prog w = .ok (.value (.tuple #[])) w := run_call_marked Tryz.func162 (by kernel_rfl) (by kernel_rfl) (by kernel_rfl) .releaseMerge (by kernel_rfl) a w
theorem store_deferred (L o : Nat) (x : Value) (u : FrameMode) (w : World) (hc : w.cell? ⟨L, o, none⟩ = some x) (hz : w.frozen? ⟨L, o, none⟩ = false) :
    CallsD Tryz.prog 147 #[.pointer (some ⟨L, o, none⟩), .bool true] u w fun e u' w' => u' = u ∧ (e = .returned (.tuple #[]) ∧ w' = w.drew.setCell ⟨L, o, none⟩ (.int .u32 1)) := by
  have hc' : w.drew.cell? ⟨L, o, none⟩ = some x := by go_simp
  have hz' : w.drew.frozen? ⟨L, o, none⟩ = false := by go_simp
  have hst := run_call_store (P := Tryz.prog) Tryz.func151 (by kernel_rfl) (by kernel_rfl) (by kernel_rfl) (by kernel_rfl) (k := .u32) (y := 1) hc' hz'
  go_enter_d Tryz.func147, Tryz.ntmps147
  go_wp2
  go_region_calls
  all_goals (go_end0; exact ⟨rfl, rfl⟩)
theorem bstore (L o : Nat) (x : Value) (w : World) (hc : w.cell? ⟨L, o, none⟩ = some x) (hz : w.frozen? ⟨L, o, none⟩ = false) :
    Calls Tryz.prog 147 #[.pointer (some ⟨L, o, none⟩), .bool true] w fun e w' => e = .returned (.tuple #[]) ∧ w.drew.setCell ⟨L, o, none⟩ (.int .u32 1) = w' := by
  have hc' : w.drew.cell? ⟨L, o, none⟩ = some x := by go_simp
  have hz' : w.drew.frozen? ⟨L, o, none⟩ = false := by go_simp
  have hst := run_call_store (P := Tryz.prog) Tryz.func151 (by kernel_rfl) (by kernel_rfl) (by kernel_rfl) (by kernel_rfl) (k := .u32) (y := 1) hc' hz'
  go_enter Tryz.func147, Tryz.ntmps147
  go_wp2
  go_region_calls
  all_goals (go_end0; exact ⟨rfl, rfl⟩)
set_option maxRecDepth 100000 in
theorem unlock_deferred (L o : Nat) (u : FrameMode) (w : World) (hc : w.cell? ⟨L, o, none⟩ = some (.int .i32 1)) (hz : w.frozen? ⟨L, o, none⟩ = false) :
    CallsD Tryz.prog 154 #[.pointer (some ⟨L, o, none⟩)] u w fun e u' w' => u' = u ∧ (e = .returned (.tuple #[]) ∧ w' = w.setCell ⟨L, o, none⟩ (.int .i32 0)) := by
  have hd := c_disable
  have he := c_enable
  have hr := c_release
  have hadd := run_call_add (P := Tryz.prog) Tryz.func163 (by kernel_rfl) (by kernel_rfl) (by kernel_rfl) .i32 (by kernel_rfl) (y := -1) (s := 0) hc hz (by simp [go_sem]; rfl)
  have hcv := run_convert_to_unsafe (P := Tryz.prog) (src := 217) (dst := 221) Tryz.underlying217 Tryz.underlying221 (by kernel_rfl) hc
  go_enter_d Tryz.func154, Tryz.ntmps154
  go_wp2
  go_end0
  go_wp2
  all_goals (go_end0; exact ⟨rfl, rfl⟩)
set_option maxRecDepth 100000 in
theorem lock_free (L o : Nat) (w : World) (hc : w.cell? ⟨L, o, none⟩ = some (.int .i32 0)) (hz : w.frozen? ⟨L, o, none⟩ = false) :
    Calls Tryz.prog 153 #[.pointer (some ⟨L, o, none⟩)] w fun e w' => e = .returned (.tuple #[]) ∧ w.setCell ⟨L, o, none⟩ (.int .i32 1) = w' := by
  have hd := c_disable
  have he := c_enable
  have ha := c_acquire
  have hcas := run_call_cas_hit (P := Tryz.prog) Tryz.func158 (by kernel_rfl) (by kernel_rfl) (by kernel_rfl) .i32 (by kernel_rfl) (y := 1) hc hz
  have hc' : (w.setCell ⟨L, o, none⟩ (.int .i32 1)).cell? ⟨L, o, none⟩ = some (.int .i32 1) := World.cell?_setCell_same w _ _ hc
  have hcv := run_convert_to_unsafe (P := Tryz.prog) (src := 217) (dst := 221) Tryz.underlying217 Tryz.underlying221 (by kernel_rfl) hc'
  go_enter Tryz.func153, Tryz.ntmps153
  go_wp2
  first | go_end0 | (simp only [Exit.inBlock, Exit.then]; refine bodyPost_ret (results_none rfl _ _ _) rfl ?_) | refine bodyPost_ret (results_none rfl _ _ _) rfl ?_
  go_wp2
  all_goals (go_end0; exact ⟨rfl, rfl⟩)
theorem refuse1 (L Rb Ab Lb : Nat) (r a : Int) (x11 x12 x7 : Value) (w : World) (h11 : w.cell? ⟨L, 11, none⟩ = some x11) (h12 : w.cell? ⟨L, 12, none⟩ = some x12) (h7 : w.cell? ⟨L, 7, none⟩ = some x7)
    (z11 : w.frozen? ⟨L, 11, none⟩ = false) (z12 : w.frozen? ⟨L, 12, none⟩ = false) (z7 : w.frozen? ⟨L, 7, none⟩ = false)
    (hr : w.cell? ⟨Rb, 0, none⟩ = some (.int .i64 r)) (ha : w.cell? ⟨Ab, 0, none⟩ = some (.int .i64 a)) (hl : w.cell? ⟨Lb, 0, none⟩ = some (.pointer (some ⟨L, 0, none⟩))) (nr : ¬ Rb = L) (na : ¬ Ab = L) (nl : ¬ Lb = L) :
    Calls Tryz.prog 146 #[.pointer (some ⟨Rb, 0, none⟩), .pointer (some ⟨Ab, 0, none⟩), .pointer (some ⟨Lb, 0, none⟩)] w fun e w' =>
      e = .returned (.tuple #[]) ∧ ((w.setCell ⟨L, 11, none⟩ (.int .i64 r)).setCell ⟨L, 12, none⟩ (.int .i64 a)).drew.setCell ⟨L, 7, none⟩ (.int .u32 1) = w' := by
  have nr' : ¬ L = Rb := fun h => nr h.symm
  have na' : ¬ L = Ab := fun h => na h.symm
  have nl' : ¬ L = Lb := fun h => nl h.symm
  have hl2 : ((w.setCell ⟨L, 11, none⟩ (.int .i64 r)).setCell ⟨L, 12, none⟩ (.int .i64 a)).cell? ⟨Lb, 0, none⟩ = some (.pointer (some ⟨L, 0, none⟩)) := by
    rw [World.cell?_setCell_other _ _ _ _ (fun h => nl' (congrArg Addr.block h)), World.cell?_setCell_other _ _ _ _ (fun h => nl' (congrArg Addr.block h))]; exact hl
  have h72 : ((w.setCell ⟨L, 11, none⟩ (.int .i64 r)).setCell ⟨L, 12, none⟩ (.int .i64 a)).cell? ⟨L, 7, none⟩ = some x7 := by
    rw [World.cell?_setCell_other _ _ _ _ (by simp), World.cell?_setCell_other _ _ _ _ (by simp)]; exact h7
  go_enter Tryz.func146, Tryz.ntmps146
  go_wp2_with (go_at_call 147; (with_reducible refine (bstore _ _ _ _ h72 (by simp [z7])).mono ?_); rintro e w1 ⟨rfl, rfl⟩)
  go_end0
  exact ⟨rfl, rfl⟩
theorem obj_other {w : World} {L b i o : Nat} {v x : Value} (h : w.cell? ⟨b, o, none⟩ = some x) (hn : ¬ b = L) : (w.setCell ⟨L, i, none⟩ v).cell? ⟨b, o, none⟩ = some x := by
  rw [World.cell?_setCell_other _ _ _ _ (fun h => hn (congrArg Addr.block h).symm)]; exact h
set_option maxRecDepth 100000 in
set_option maxHeartbeats 1600000 in
theorem slow_once (L Rb Ab Lb : Nat) (r a : Int) (b0 b1 b2 b3 b4 b5 b6 b10 b11 b12 : Value) (T : TypeId) (w : World)
    (h : Obj1 w L #[b0, b1, b2, b3, b4, b5, b6, .int .u32 0, .int .u32 0, .int .i32 0, b10, b11, b12] T)
    (hr : w.cell? ⟨Rb, 0, none⟩ = some (.int .i64 r)) (ha : w.cell? ⟨Ab, 0, none⟩ = some (.int .i64 a)) (hl : w.cell? ⟨Lb, 0, none⟩ = some (.pointer (some ⟨L, 0, none⟩))) (nr : ¬ Rb = L) (na : ¬ Ab = L) (nl : ¬ Lb = L) :
    Calls Tryz.prog 150 #[.pointer (some ⟨L, 8, none⟩), .func (.func 146) #[] #[.pointer (some ⟨Rb, 0, none⟩), .pointer (some ⟨Ab, 0, none⟩), .pointer (some ⟨Lb, 0, none⟩)]] w fun e w' =>
      e = .returned (.tuple #[]) ∧ (((((w.setCell ⟨L, 9, none⟩ (.int .i32 1)).setCell ⟨L, 11, none⟩ (.int .i64 r)).setCell ⟨L, 12, none⟩ (.int .i64 a)).drew.setCell ⟨L, 7, none⟩ (.int .u32 1)).drew.setCell ⟨L, 8, none⟩ (.int .u32 1)).setCell ⟨L, 9, none⟩ (.int .i32 0) = w' := by
  have h1 := h.set 9 (.int .i32 1)
  have h2 := ((h1.set 11 (.int .i64 r)).set 12 (.int .i64 a)).drew.set 7 (.int .u32 1)
  have h3 := h2.drew.set 8 (.int .u32 1)
  have H := Hi h
  have H1 := Hi h1
  have H2 := Hi h2
  have H3 := Hi h3
  have hnot : ∀ (x : Bool) (w : World), (Op.unary .not (.bool x)).run Tryz.prog w = .ok (.bool (!x)) w := fun _ _ => rfl
  have HL := Hi (lock_free L 9 w ((h.cell 9).trans rfl) (h.frozen 9))
  have HB := Hi (bload_f L 8 _ ((h1.cell 8).trans rfl))
  have HC := Hi (refuse1 L Rb Ab Lb r a b11 b12 (.int .u32 0) _ ((h1.cell 11).trans rfl) ((h1.cell 12).trans rfl) ((h1.cell 7).trans rfl) (h1.frozen 11) (h1.frozen 12) (h1.frozen 7) (obj_other hr nr) (obj_other ha na) (obj_other hl nl) nr na nl)
  clear h h1 h2 h3 hr ha hl nr na nl
  go_enter_defers Tryz.func150, Tryz.ntmps150
  go_wp2_with (first
    | (go_at_call 153; (with_reducible refine (HL.out).mono ?_); rintro e w1 ⟨rfl, rfl⟩)
    | (go_at_call 116; (with_reducible refine (HB.out).mono ?_); rintro e w1 ⟨rfl, rfl⟩)
    | (go_at_call 146; (with_reducible refine (HC.out).mono ?_); rintro e w1 ⟨rfl, rfl⟩))
  refine leaves_cons (f := 147) (args := #[.pointer (some ⟨L, 8, none⟩), .bool true]) (by simp) (by simp [go_sem]) ?_
  refine (store_deferred L 8 (.int .u32 0) .returning _ ((H2.out.cell 8).trans rfl) (H2.out.frozen 8)).mono ?_
  rintro e u' w'' ⟨rfl, rfl, rfl⟩
  refine leaves_cons (f := 154) (args := #[.pointer (some ⟨L, 9, none⟩)]) (by simp [settle]) (by simp [go_sem]) ?_
  refine (unlock_deferred L 9 _ _ ((H3.out.cell 9).trans rfl) (H3.out.frozen 9)).mono ?_
  rintro e u' w'' ⟨rfl, rfl, rfl⟩
  simp [Leaves, settle, results, Tryz.results150]
def Refused (L : Nat) (r a : Int) (w : World) : World := (((((w.setCell ⟨L, 9, none⟩ (.int .i32 1)).setCell ⟨L, 11, none⟩ (.int .i64 r)).setCell ⟨L, 12, none⟩ (.int .i64 a)).drew.setCell ⟨L, 7, none⟩ (.int .u32 1)).drew.setCell ⟨L, 8, none⟩ (.int .u32 1)).setCell ⟨L, 9, none⟩ (.int .i32 0)
theorem refused_obj {L : Nat} {r a : Int} {b0 b1 b2 b3 b4 b5 b6 b7 b8 b9 b10 b11 b12 : Value} {T : TypeId} {w : World} (h : Obj1 w L #[b0, b1, b2, b3, b4, b5, b6, b7, b8, b9, b10, b11, b12] T) :
    Obj1 (Refused L r a w) L #[b0, b1, b2, b3, b4, b5, b6, .int .u32 1, .int .u32 1, .int .i32 0, b10, .int .i64 r, .int .i64 a] T := by
  have := ((((((h.set 9 (.int .i32 1)).set 11 (.int .i64 r)).set 12 (.int .i64 a)).drew.set 7 (.int .u32 1)).drew.set 8 (.int .u32 1)).set 9 (.int .i32 0))
  simp only [List.setIfInBounds_toArray, List.set_cons_succ, List.set_cons_zero] at this
  exact this
theorem refused_chg (L : Nat) (r a : Int) (w : World) : Chg (· = L) w (Refused L r a w) := by
  unfold Refused
  refine Chg.set ?_ ⟨L, 9, none⟩ _ (Or.inl rfl)
  refine Chg.set (Chg.drew ?_) ⟨L, 8, none⟩ _ (Or.inl rfl)
  refine Chg.set (Chg.drew ?_) ⟨L, 7, none⟩ _ (Or.inl rfl)
  refine Chg.set ?_ ⟨L, 12, none⟩ _ (Or.inl rfl)
  refine Chg.set ?_ ⟨L, 11, none⟩ _ (Or.inl rfl)
  refine Chg.set ?_ ⟨L, 9, none⟩ _ (Or.inl rfl)
  exact Chg.refl _ w
set_option maxHeartbeats 1600000 in
theorem do_once (L Rb Ab Lb : Nat) (r a : Int) (b0 b1 b2 b3 b4 b5 b6 b10 b11 b12 : Value) (T : TypeId) (w : World)
    (h : Obj1 w L #[b0, b1, b2, b3, b4, b5, b6, .int .u32 0, .int .u32 0, .int .i32 0, b10, b11, b12] T)
    (hr : w.cell? ⟨Rb, 0, none⟩ = some (.int .i64 r)) (ha : w.cell? ⟨Ab, 0, none⟩ = some (.int .i64 a)) (hl : w.cell? ⟨Lb, 0, none⟩ = some (.pointer (some ⟨L, 0, none⟩))) (nr : ¬ Rb = L) (na : ¬ Ab = L) (nl : ¬ Lb = L) :
    Calls Tryz.prog 145 #[.pointer (some ⟨L, 8, none⟩), .func (.func 146) #[] #[.pointer (some ⟨Rb, 0, none⟩), .pointer (some ⟨Ab, 0, none⟩), .pointer (some ⟨Lb, 0, none⟩)]] w fun e w' =>
      e = .returned (.tuple #[]) ∧ Obj1 w' L #[b0, b1, b2, b3, b4, b5, b6, .int .u32 1, .int .u32 1, .int .i32 0, b10, .int .i64 r, .int .i64 a] T ∧ Chg (· = L) w w' := by
  have hnot : ∀ (x : Bool) (w : World), (Op.unary .not (.bool x)).run Tryz.prog w = .ok (.bool (!x)) w := fun _ _ => rfl
  have HB := Hi (bload_f L 8 w ((h.cell 8).trans rfl))
  have HS := Hi ((slow_once L Rb Ab Lb r a _ _ _ _ _ _ _ _ _ _ T w h hr ha hl nr na nl).mono (R' := fun e w' => e = .returned (.tuple #[]) ∧ Refused L r a w = w') fun e w' hh => hh)
  have H := Hi h
  clear h hr ha hl nr na nl
  go_enter Tryz.func145, Tryz.ntmps145
  go_wp2_with (first
    | (go_at_call 116; (with_reducible refine (HB.out).mono ?_); rintro e w1 ⟨rfl, rfl⟩)
    | (go_at_call 150; (with_reducible refine (HS.out).mono ?_); rintro e w1 ⟨rfl, rfl⟩))
  go_end0
  exact ⟨rfl, refused_obj H.out, refused_chg _ _ _ _⟩
set_option maxHeartbeats 1600000 in
theorem refuse_any (L : Nat) (r a : Int) (b0 b1 b2 b3 b4 b5 b6 b10 b11 b12 : Value) (T : TypeId) (w : World)
    (h : Obj1 w L #[b0, b1, b2, b3, b4, b5, b6, .int .u32 0, .int .u32 0, .int .i32 0, b10, b11, b12] T) :
    Calls Tryz.prog 137 #[.pointer (some ⟨L, 0, none⟩), .int .i64 r, .int .i64 a] w fun e w' =>
      e = .returned (.bool false) ∧ Obj1 w' L #[b0, b1, b2, b3, b4, b5, b6, .int .u32 1, .int .u32 1, .int .i32 0, b10, .int .i64 r, .int .i64 a] T ∧ Chg (· = L) w w' := by
  have hmf : ∀ (fn : Fn) (first cap : Array Value) (w : World), (Instr.makeFunc fn first cap).run Tryz.prog w = .ok (.func fn first cap) w := fun _ _ _ _ => rfl
  have hlt := h.lt
  have HD := Hi (fun TP TI => do_once L (w.heap.size + 1) (w.heap.size + 2) w.heap.size r a _ _ _ _ _ _ _ _ _ _ T (((w.alloc (.cells #[.pointer (some ⟨L, 0, none⟩)] TP)).alloc (.cells #[.int .i64 r] TI)).alloc (.cells #[.int .i64 a] TI)) (((h.alloc _).alloc _).alloc _) (by simp [go_sem]) (by simp [go_sem]) (by simp [go_sem]) (by omega) (by omega) (by omega))
  clear h
  go_enter Tryz.func137, Tryz.ntmps137
  go_wp2_with (go_at_call 145; (with_reducible refine (HD.out _ _).mono ?_); rintro e w1 ⟨rfl, hO, hC⟩)
  go_ret
  exact ⟨rfl, hO, ((((Chg.refl _ w).alloc _).alloc _).alloc _).trans (hC.mono fun _ _ h => h)⟩
structure Led where
  mw : Int
  mh : Int
  mb : Int
  mx : Int
  bt : Int
  pk : Int
  st : Int
  br : Bool
  rs : Int
  ak : Int
def bi (b : Bool) : Int := if b then 1 else 0
def Led.cells (s : Led) : Array Value := #[.int .i64 s.mw, .int .i64 s.mh, .int .i64 s.mb, .int .i64 s.mx, .int .i64 s.bt, .int .i64 s.pk, .int .i64 s.st, .int .u32 (bi s.br), .int .u32 (bi s.br), .int .i32 0, .int .u32 0, .int .i64 s.rs, .int .i64 s.ak]
structure Led.ok (s : Led) : Prop where
  b0 : 0 ≤ s.bt
  b1 : s.bt ≤ s.mb
  b2 : s.mb ≤ 9223372036854775807
  s0 : 0 ≤ s.st
  s1 : s.st ≤ s.mx
  s2 : s.mx ≤ 9223372036854775807
structure LedAt (w : World) (L : Nat) (s : Led) : Prop where
  obj : Obj1 w L s.cells 73
  ok : s.ok
theorem LedAt.chg {S : Nat → Prop} {w w' : World} {L : Nat} {s : Led} (h : LedAt w L s) (hc : Chg S w w') (hn : ¬ S L) : LedAt w' L s := ⟨hc.obj h.obj hn, h.ok⟩
theorem LedAt.lt {w : World} {L : Nat} {s : Led} (h : LedAt w L s) : L < w.heap.size := h.obj.lt
def Led.refuse (s : Led) (r n : Int) : Led := { s with br := true, rs := r, ak := n }
def Led.work (s : Led) (n : Int) : Led × Bool := if s.br = true then (s, false) else if n < 0 ∨ s.mx - s.st < n then (s.refuse 3 n, false) else ({ s with st := s.st + n }, true)
theorem Led.work_ok {s : Led} (h : s.ok) (n : Int) : (s.work n).1.ok := by
  obtain ⟨a, b, c, d, e, f⟩ := h
  unfold Led.work
  by_cases h1 : s.br = true
  · rw [if_pos h1]; exact ⟨a, b, c, d, e, f⟩
  · rw [if_neg h1]
    by_cases h2 : n < 0 ∨ s.mx - s.st < n
    · rw [if_pos h2]; exact ⟨a, b, c, d, e, f⟩
    · rw [if_neg h2]; exact ⟨a, b, c, by show 0 ≤ s.st + n; omega, by show s.st + n ≤ s.mx; omega, f⟩
theorem add_no (L o : Nat) (n most reason was : Int) (b0 b1 b2 b3 b4 b5 b6 b10 b11 b12 : Value) (T : TypeId) (w : World)
    (h : Obj1 w L #[b0, b1, b2, b3, b4, b5, b6, .int .u32 0, .int .u32 0, .int .i32 0, b10, b11, b12] T) (hc : w.cell? ⟨L, o, none⟩ = some (.int .i64 was))
    (h1 : n < 0 ∨ most - was < n) (h2 : 0 ≤ was) (h3 : was ≤ most) (h4 : most ≤ 9223372036854775807) :
    Calls Tryz.prog 130 #[.pointer (some ⟨L, 0, none⟩), .pointer (some ⟨L, o, none⟩), .int .i64 n, .int .i64 most, .int .i64 reason] w fun e w' =>
      e = .returned (.bool false) ∧ Obj1 w' L #[b0, b1, b2, b3, b4, b5, b6, .int .u32 1, .int .u32 1, .int .i32 0, b10, .int .i64 reason, .int .i64 n] T ∧ Chg (· = L) w w' := by
  have HB := Hi (bload_f L 7 w ((h.cell 7).trans rfl))
  have HL := Hi (aload64 L o was w hc)
  have HR := Hi (refuse_any L reason n _ _ _ _ _ _ _ _ _ _ T w h)
  clear h hc
  by_cases hneg : n < 0
  · have G0 : decide (n < 0) = true := by rw [decide_eq_true_iff]; exact hneg
    clear h1
    go_enter Tryz.func130, Tryz.ntmps130
    go_wp2
    refine wp_loop_rounds 1 ?_
    rw [rounds_succ]
    go_wp2_with (first
      | (go_at_call 116; (with_reducible refine (HB.out).mono ?_); rintro e w1 ⟨rfl, rfl⟩)
      | (go_at_call 136; (with_reducible refine (HL.out).mono ?_); rintro e w1 ⟨rfl, rfl⟩)
      | (go_at_call 137; (with_reducible refine (HR.out).mono ?_); rintro e w1 ⟨rfl, hO, hC⟩))
    go_ret
    exact ⟨rfl, hO, hC⟩
  · have G0 : decide (n < 0) = false := by rw [decide_eq_false_iff_not]; exact hneg
    have h1 : most - was < n := by omega
    clear hneg
    go_enter Tryz.func130, Tryz.ntmps130
    go_wp2
    refine wp_loop_rounds 1 ?_
    rw [rounds_succ]
    go_wp2_with (first
      | (go_at_call 116; (with_reducible refine (HB.out).mono ?_); rintro e w1 ⟨rfl, rfl⟩)
      | (go_at_call 136; (with_reducible refine (HL.out).mono ?_); rintro e w1 ⟨rfl, rfl⟩)
      | (go_at_call 137; (with_reducible refine (HR.out).mono ?_); rintro e w1 ⟨rfl, hO, hC⟩))
    go_ret
    exact ⟨rfl, hO, hC⟩
theorem add_led (L : Nat) (s : Led) (n : Int) (w : World) (h : LedAt w L s) : Calls Tryz.prog 130 #[.pointer (some ⟨L, 0, none⟩), .pointer (some ⟨L, 6, none⟩), .int .i64 n, .int .i64 s.mx, .int .i64 3] w fun e w' =>
      e = .returned (.bool (s.work n).2) ∧ LedAt w' L (s.work n).1 ∧ Chg (· = L) w w' := by
  have hk := Led.work_ok h.ok n
  obtain ⟨ho, hok⟩ := h
  by_cases h1 : s.br = true
  · have e1 : s.work n = (s, false) := by unfold Led.work; rw [if_pos h1]
    rw [e1]
    refine (add_broken L 6 n s.mx 3 w ((ho.cell 7).trans (by unfold Led.cells; rw [h1]; rfl))).mono ?_
    rintro e w' ⟨rfl, rfl⟩
    exact ⟨rfl, ⟨ho, hok⟩, Chg.refl _ _⟩
  · have hf : s.br = false := by cases hb : s.br <;> simp_all
    by_cases h2 : n < 0 ∨ s.mx - s.st < n
    · have e1 : s.work n = (s.refuse 3 n, false) := by unfold Led.work; rw [if_neg h1, if_pos h2]
      rw [e1] at hk ⊢
      have ho' : Obj1 w L #[.int .i64 s.mw, .int .i64 s.mh, .int .i64 s.mb, .int .i64 s.mx, .int .i64 s.bt, .int .i64 s.pk, .int .i64 s.st, .int .u32 0, .int .u32 0, .int .i32 0, .int .u32 0, .int .i64 s.rs, .int .i64 s.ak] 73 := by
        have := ho; unfold Led.cells at this; rw [hf] at this; exact this
      refine (add_no L 6 n s.mx 3 s.st _ _ _ _ _ _ _ _ _ _ _ w ho' ((ho.cell 6).trans rfl) h2 hok.s0 hok.s1 hok.s2).mono ?_
      rintro e w' ⟨rfl, hO, hC⟩
      exact ⟨rfl, ⟨hO, hk⟩, hC⟩
    · have e1 : s.work n = ({ s with st := s.st + n }, true) := by unfold Led.work; rw [if_neg h1, if_neg h2]
      rw [e1] at hk ⊢
      refine (add_ok L 6 n s.mx 3 s.st w ((ho.cell 7).trans (by unfold Led.cells; rw [hf]; rfl)) ((ho.cell 6).trans rfl) (ho.frozen 6) (by omega) (by omega) hok.s0 hok.s1 hok.s2).mono ?_
      rintro e w' ⟨rfl, rfl⟩
      exact ⟨rfl, ⟨ho.set 6 _, hk⟩, (Chg.refl _ w).set _ _ (Or.inl rfl)⟩
set_option maxRecDepth 100000 in
theorem work_via (L : Nat) (n most : Int) (b : Bool) (R : World → Prop) (w : World) (hm : w.cell? ⟨L, 3, none⟩ = some (.int .i64 most))
    (HA : Calls Tryz.prog 130 #[.pointer (some ⟨L, 0, none⟩), .pointer (some ⟨L, 6, none⟩), .int .i64 n, .int .i64 most, .int .i64 3] (w.drewN 1) fun e w' => e = .returned (.bool b) ∧ R w') :
    Calls Tryz.prog 115 #[.pointer (some ⟨L, 0, none⟩), .int .i64 n] w fun e w' => e = .returned (.bool b) ∧ R w' := by
  have HA := Hi HA
  go_enter Tryz.func115, Tryz.ntmps115
  go_wp2
  go_still_tail 10, (by kernel_rfl)
  rw [show (⟨w.heap, w.tape, w.drawn + 1, w.os, w.output⟩ : World) = w.drewN 1 from rfl]
  go_wp2_with (go_at_call 130; (with_reducible refine (HA.out).mono ?_); rintro e w1 ⟨rfl, hR⟩)
  go_ret
  exact ⟨rfl, hR⟩
theorem work_any (L : Nat) (s : Led) (n : Int) (w : World) (h : LedAt w L s) : Calls Tryz.prog 115 #[.pointer (some ⟨L, 0, none⟩), .int .i64 n] w fun e w' =>
      e = .returned (.bool (s.work n).2) ∧ LedAt w' L (s.work n).1 ∧ Chg (· = L) w w' := by
  have h' : LedAt (w.drewN 1) L s := ⟨h.obj.drewN 1, h.ok⟩
  refine work_via L n s.mx (s.work n).2 (fun w' => LedAt w' L (s.work n).1 ∧ Chg (· = L) w w') w ((h.obj.cell 3).trans rfl) ((add_led L s n _ h').mono ?_)
  rintro e w' ⟨rfl, hL, hC⟩
  exact ⟨rfl, hL, ((Chg.refl _ w).drewN 1).trans hC⟩
theorem broken_any (L : Nat) (s : Led) (w : World) (h : LedAt w L s) : Calls Tryz.prog 83 #[.pointer (some ⟨L, 0, none⟩)] w fun e w' => e = .returned (.bool s.br) ∧ w = w' := by
  have HL : Calls Tryz.prog 116 #[.pointer (some ⟨L, 7, none⟩)] w fun e w' => e = .returned (.bool s.br) ∧ w = w' := by
    have hc : w.cell? ⟨L, 7, none⟩ = some (.int .u32 (bi s.br)) := (h.obj.cell 7).trans rfl
    cases hb : s.br
    · rw [hb] at hc; exact bload_f L 7 w hc
    · rw [hb] at hc; exact bload_t L 7 w hc
  have HL := Hi HL
  clear h
  go_enter Tryz.func83, Tryz.ntmps83
  go_wp2_with (go_at_call 116; (with_reducible refine (HL.out).mono ?_); rintro e w1 ⟨rfl, rfl⟩)
  go_ret
  exact ⟨rfl, rfl⟩
def Led.new (mw mh mb mk : Int) : Led := ⟨max mw 0, max mh 0, max mb 0, max mk 0, 0, 0, 0, false, 0, 0⟩
theorem Led.new_ok (mw mh mb mk : Int) (h1 : mb ≤ 9223372036854775807) (h2 : mk ≤ 9223372036854775807) : (Led.new mw mh mb mk).ok := by
  refine ⟨?_, ?_, ?_, ?_, ?_, ?_⟩ <;> simp only [Led.new] <;> omega
theorem obj1_new2 (w : World) (a : Obj) {cs cs' : Array Value} (T : TypeId) (h : cs = cs') : Obj1 ((w.alloc a).alloc (.cells cs T)) (w.heap.size + 1) cs' T := by
  subst h; have := obj1_new (w.alloc a) cs T; simpa using this
theorem lnew_any (mw mh mb mk : Int) (w : World) (h1 : mb ≤ 9223372036854775807) (h2 : mk ≤ 9223372036854775807) : Calls Tryz.prog 15 #[.agg #[.int .i64 mw, .int .i64 mh, .int .i64 mb, .int .i64 mk]] w fun e w' =>
      ∃ L, e = .returned (.pointer (some ⟨L, 0, none⟩)) ∧ LedAt w' L (Led.new mw mh mb mk) ∧ w.heap.size ≤ L ∧ Chg (fun _ => False) w w' := by
  have hk := Led.new_ok mw mh mb mk h1 h2
  have HK := Hi hk
  clear hk h1 h2
  go_enter Tryz.func15, Tryz.ntmps15
  go_wp2
  all_goals
    go_ret
    exact ⟨w.heap.size + 1, rfl, ⟨obj1_new2 _ _ _ (by simp [Led.cells, Led.new, bi]; omega), HK.out⟩, by omega, ((Chg.refl _ w).alloc _).alloc _⟩
structure Sr where
  L : Nat
  s : ByteArray
  b : Nat
  e : Nat
  p : Nat
def Sr.cells (x : Sr) : Array Value := #[.pointer (some ⟨x.L, 0, none⟩), .string x.s, .int .i64 x.b, .int .i64 x.e, .int .i64 x.p]
structure Sr.ok (x : Sr) : Prop where
  bp : x.b ≤ x.p
  pe : x.p ≤ x.e
  es : x.e ≤ x.s.size
  sz : x.s.size ≤ 9223372036854775807
structure SrcAt (w : World) (X : Nat) (x : Sr) : Prop where
  obj : Obj1 w X x.cells 75
  ok : x.ok
  ne : X ≠ x.L
theorem SrcAt.chg {S : Nat → Prop} {w w' : World} {X : Nat} {x : Sr} (h : SrcAt w X x) (hc : Chg S w w') (hn : ¬ S X) : SrcAt w' X x := ⟨hc.obj h.obj hn, h.ok, h.ne⟩
theorem SrcAt.lt {w : World} {X : Nat} {x : Sr} (h : SrcAt w X x) : X < w.heap.size := h.obj.lt
theorem SrcAt.c0 {w : World} {X : Nat} {x : Sr} (h : SrcAt w X x) : w.cell? ⟨X, 0, none⟩ = some (.pointer (some ⟨x.L, 0, none⟩)) := (h.obj.cell 0).trans rfl
theorem SrcAt.c1 {w : World} {X : Nat} {x : Sr} (h : SrcAt w X x) : w.cell? ⟨X, 1, none⟩ = some (.string x.s) := (h.obj.cell 1).trans rfl
theorem SrcAt.c2 {w : World} {X : Nat} {x : Sr} (h : SrcAt w X x) : w.cell? ⟨X, 2, none⟩ = some (.int .i64 x.b) := (h.obj.cell 2).trans rfl
theorem SrcAt.c3 {w : World} {X : Nat} {x : Sr} (h : SrcAt w X x) : w.cell? ⟨X, 3, none⟩ = some (.int .i64 x.e) := (h.obj.cell 3).trans rfl
theorem SrcAt.c4 {w : World} {X : Nat} {x : Sr} (h : SrcAt w X x) : w.cell? ⟨X, 4, none⟩ = some (.int .i64 x.p) := (h.obj.cell 4).trans rfl
theorem SrcAt.f4 {w : World} {X : Nat} {x : Sr} (h : SrcAt w X x) : w.frozen? ⟨X, 4, none⟩ = false := h.obj.frozen 4
theorem SrcAt.drewN {w : World} {X : Nat} {x : Sr} (h : SrcAt w X x) (n : Nat) : SrcAt (w.drewN n) X x := ⟨h.obj.drewN n, h.ok, h.ne⟩
theorem LedAt.drewN {w : World} {X : Nat} {x : Led} (h : LedAt w X x) (n : Nat) : LedAt (w.drewN n) X x := ⟨h.obj.drewN n, h.ok⟩
theorem SrcAt.put {w : World} {X : Nat} {x : Sr} (h : SrcAt w X x) (p : Nat) (h1 : x.b ≤ p) (h2 : p ≤ x.e) : SrcAt (w.setCell ⟨X, 4, none⟩ (.int .i64 p)) X { x with p := p } := ⟨h.obj.set 4 _, ⟨h1, h2, h.ok.es, h.ok.sz⟩, h.ne⟩
theorem SrcAt.put' {w : World} {X : Nat} {x : Sr} (h : SrcAt w X x) (v : Int) (p : Nat) (hv : v = p) (h1 : x.b ≤ p) (h2 : p ≤ x.e) : SrcAt (w.setCell ⟨X, 4, none⟩ (.int .i64 v)) X { x with p := p } := by subst hv; exact h.put p h1 h2
theorem LedAt.put {w : World} {L X i : Nat} {l : Led} (h : LedAt w L l) (v : Value) (hn : L ≠ X) : LedAt (w.setCell ⟨X, i, none⟩ v) L l := ⟨h.obj.set_other _ _ hn, h.ok⟩
structure Pair (w : World) (X : Nat) (x : Sr) (l : Led) : Prop where
  src : SrcAt w X x
  led : LedAt w x.L l
abbrev two (X : Nat) (x : Sr) (k : Nat) : Prop := k = X ∨ k = x.L
theorem left_any (X : Nat) (x : Sr) (w : World) (h : SrcAt w X x) : Calls Tryz.prog 108 #[.pointer (some ⟨X, 0, none⟩)] w fun e w' => e = .returned (.int .i64 ((x.e : Int) - x.p)) ∧ ∃ k, w.drewN k = w' := by
  have k3 := h.c3
  have k4 := h.c4
  obtain ⟨-, ⟨h1, h2, h3, h4⟩, -⟩ := h
  have e1 : IntKind.i64.wrap ((x.e : Int) - x.p) = (x.e : Int) - x.p := i64_wrap_id _ (by omega) (by omega)
  go_enter Tryz.func108, Tryz.ntmps108
  go_wp2
  go_quiet (fail)
  go_wp2
  go_ret
  exact ⟨rfl, _, rfl⟩
def Sr.next (x : Sr) (l : Led) (n : Int) : (Sr × Led) × (ByteArray × Bool) :=
  if (l.work 1).2 = true ∧ 0 ≤ n ∧ n ≤ (x.e : Int) - x.p then (({ x with p := x.p + n.toNat }, (l.work 1).1), (x.s.extract x.p (x.p + n.toNat), true)) else ((x, (l.work 1).1), (ByteArray.empty, false))
def NextPost (w : World) (X : Nat) (x : Sr) (r : (Sr × Led) × (ByteArray × Bool)) (e : Ending) (w' : World) : Prop :=
  e = .returned (.tuple #[.string r.2.1, .bool r.2.2]) ∧ Pair w' X r.1.1 r.1.2 ∧ Chg (two X x) w w'
theorem work_two {X : Nat} {x : Sr} {l l' : Led} {w w' : World} (h : Pair w X x l) (hl : LedAt w' x.L l') (hc : Chg (· = x.L) w w') : Pair w' X x l' ∧ Chg (two X x) w w' :=
  ⟨⟨h.src.chg hc h.src.ne, hl⟩, hc.mono fun k _ e => Or.inr e⟩
theorem two_left {X : Nat} {x : Sr} {l : Led} {w w' : World} {k : Nat} (h : Pair w X x l) (e : w.drewN k = w') : Pair w' X x l ∧ Chg (two X x) w w' := by
  subst e; exact ⟨⟨h.src.drewN k, h.led.drewN k⟩, (Chg.refl _ w).drewN k⟩
theorem next_no (X : Nat) (x : Sr) (l : Led) (n : Int) (w : World) (h : Pair w X x l) (hn : ¬ ((l.work 1).2 = true ∧ 0 ≤ n ∧ n ≤ (x.e : Int) - x.p)) :
    Calls Tryz.prog 82 #[.pointer (some ⟨X, 0, none⟩), .int .i64 n] w (NextPost w X x ((x, (l.work 1).1), (ByteArray.empty, false))) := by
  have k0 := h.src.c0
  have HW := Hi (work_any x.L l 1 w h.led)
  have H := Hi h
  obtain ⟨ok, hok⟩ : ∃ ok, (l.work 1).2 = ok := ⟨_, rfl⟩
  rw [hok] at hn HW
  clear hok h
  cases ok with
  | false =>
    clear hn
    go_enter Tryz.func82, Tryz.ntmps82
    go_wp2_with (go_at_call 115; (with_reducible refine (HW.out).mono ?_); rintro e w1 ⟨rfl, hL1, hC1⟩)
    go_ret2
    obtain ⟨p1, p2⟩ := work_two H.out hL1 hC1
    exact ⟨rfl, p1, p2⟩
  | true =>
    have hn : n < 0 ∨ (0 ≤ n ∧ (x.e : Int) - x.p < n) := by have := hn; simp at this; omega
    rcases hn with hn | ⟨h0, hn⟩
    · have G0 : decide (n < 0) = true := by rw [decide_eq_true_iff]; exact hn
      go_enter Tryz.func82, Tryz.ntmps82
      go_wp2_with (go_at_call 115; (with_reducible refine (HW.out).mono ?_); rintro e w1 ⟨rfl, hL1, hC1⟩)
      go_ret2
      obtain ⟨p1, p2⟩ := work_two H.out hL1 hC1
      exact ⟨rfl, p1, p2⟩
    · have G0 : decide (n < 0) = false := by rw [decide_eq_false_iff_not]; omega
      obtain ⟨d, hd⟩ : ∃ d, (x.e : Int) - x.p = d := ⟨_, rfl⟩
      have HLf := Hi (fun w0 (h0 : SrcAt w0 X x) => (left_any X x w0 h0).mono (R' := fun e w' => e = .returned (.int .i64 d) ∧ ∃ k, w0.drewN k = w') fun e w' hh => by rw [hd] at hh; exact hh)
      rw [hd] at hn
      clear hd
      go_enter Tryz.func82, Tryz.ntmps82
      go_wp2_with (first
        | (go_at_call 115; (with_reducible refine (HW.out).mono ?_); rintro e w1 ⟨rfl, hL1, hC1⟩)
        | (go_at_call 108; (with_reducible refine (HLf.out _ (work_two H.out hL1 hC1).1.src).mono ?_); rintro e w2 ⟨rfl, hk2⟩))
      go_ret2
      obtain ⟨p1, p2⟩ := work_two H.out hL1 hC1
      obtain ⟨k, hk⟩ := hk2
      obtain ⟨q1, q2⟩ := two_left p1 hk
      exact ⟨rfl, q1, p2.trans q2⟩
theorem next_yes (X : Nat) (x : Sr) (l : Led) (n : Nat) (w : World) (h : Pair w X x l) (hok : (l.work 1).2 = true) (hn : n ≤ x.e - x.p) :
    Calls Tryz.prog 82 #[.pointer (some ⟨X, 0, none⟩), .int .i64 n] w (NextPost w X x (({ x with p := x.p + n }, (l.work 1).1), (x.s.extract x.p (x.p + n), true))) := by
  have k0 := h.src.c0
  have hpe := h.src.ok.pe
  have hes := h.src.ok.es
  have hsz := h.src.ok.sz
  have HW := Hi (work_any x.L l 1 w h.led)
  have H := Hi h
  rw [hok] at HW
  clear hok h
  have G0 : decide ((n : Int) < 0) = false := by rw [decide_eq_false_iff_not]; omega
  obtain ⟨d, hd⟩ : ∃ d, (x.e : Int) - x.p = d := ⟨_, rfl⟩
  have HLf := Hi (fun w0 (h0 : SrcAt w0 X x) => (left_any X x w0 h0).mono (R' := fun e w' => e = .returned (.int .i64 d) ∧ ∃ k, w0.drewN k = w') fun e w' hh => by rw [hd] at hh; exact hh)
  have hnd : (n : Int) ≤ d := by omega
  have G1 : decide ((n : Int) > d) = false := by rw [decide_eq_false_iff_not]; omega
  clear hd
  go_enter Tryz.func82, Tryz.ntmps82
  go_wp2_with (first
    | (go_at_call 115; (with_reducible refine (HW.out).mono ?_); rintro e w1 ⟨rfl, hL1, hC1⟩)
    | (go_at_call 108; (with_reducible refine (HLf.out _ (work_two H.out hL1 hC1).1.src).mono ?_); rintro e w2 ⟨rfl, hk2⟩))
  obtain ⟨p1, p2⟩ := work_two H.out hL1 hC1
  obtain ⟨k, hk⟩ := hk2
  obtain ⟨q1, q2⟩ := two_left p1 hk
  have Q1 := Hi q1
  have Q2 := Hi (p2.trans q2)
  have c0 := q1.src.c0
  have c1 := q1.src.c1
  have c4 := q1.src.c4
  have f4 := q1.src.f4
  have e0 : IntKind.i64.wrap ((x.p : Int) + n) = (x.p : Int) + n := i64_wrap_id _ (by omega) (by omega)
  have e1 : ((x.p : Int) + n).toNat = x.p + n := by omega
  have b0 : (0 : Int) ≤ (x.p : Int) := by omega
  have b1 : (x.p : Int) ≤ (x.p : Int) + n := by omega
  have b2 : (x.p : Int) + n ≤ (x.s.size : Int) := by omega
  clear hk q1 q2 p1 p2 hC1 hL1
  go_quiet (fail)
  clear e0 e1
  go_wp2
  go_ret2
  exact ⟨rfl, ⟨(Q1.out.src.drewN _).put' _ (x.p + n) (by omega) (by have := Q1.out.src.ok.bp; omega) (by omega), (Q1.out.led.drewN _).put _ (fun e => Q1.out.src.ne e.symm)⟩, (Q2.out.drewN _).set _ _ (Or.inl (Or.inl rfl))⟩
theorem next_any (X : Nat) (x : Sr) (l : Led) (n : Int) (w : World) (h : Pair w X x l) : Calls Tryz.prog 82 #[.pointer (some ⟨X, 0, none⟩), .int .i64 n] w (NextPost w X x (x.next l n)) := by
  unfold Sr.next
  by_cases hc : (l.work 1).2 = true ∧ 0 ≤ n ∧ n ≤ (x.e : Int) - x.p
  · rw [if_pos hc]
    obtain ⟨h1, h2, h3⟩ := hc
    obtain ⟨n, rfl⟩ := Int.eq_ofNat_of_zero_le h2
    exact next_yes X x l n w h h1 (by omega)
  · rw [if_neg hc]
    exact next_no X x l n w h hc
/-! ### plain readers -/
theorem at_any (X : Nat) (x : Sr) (w : World) (h : SrcAt w X x) : Calls Tryz.prog 48 #[.pointer (some ⟨X, 0, none⟩)] w fun e w' => e = .returned (.int .i64 x.p) ∧ w = w' := by
  have k := h.c4
  clear h
  go_enter Tryz.func48, Tryz.ntmps48
  go_wp2
  go_ret
  exact ⟨rfl, rfl⟩
theorem sledger_any (X : Nat) (x : Sr) (w : World) (h : SrcAt w X x) : Calls Tryz.prog 139 #[.pointer (some ⟨X, 0, none⟩)] w fun e w' => e = .returned (.pointer (some ⟨x.L, 0, none⟩)) ∧ w = w' := by
  have k := h.c0
  clear h
  go_enter Tryz.func139, Tryz.ntmps139
  go_wp2
  go_ret
  exact ⟨rfl, rfl⟩
def BoolPost (w : World) (X : Nat) (x y : Sr) (m : Led) (ok : Bool) (e : Ending) (w' : World) : Prop := e = .returned (.bool ok) ∧ Pair w' X y m ∧ Chg (two X x) w w'
def Sr.seek (x : Sr) (n : Int) : Sr × Bool := if n < x.b ∨ (x.e : Int) < n then (x, false) else ({ x with p := n.toNat }, true)
theorem seek_any (X : Nat) (x : Sr) (l : Led) (n : Int) (w : World) (h : Pair w X x l) : Calls Tryz.prog 109 #[.pointer (some ⟨X, 0, none⟩), .int .i64 n] w (BoolPost w X x (x.seek n).1 l (x.seek n).2) := by
  have k2 := h.src.c2
  have k3 := h.src.c3
  have k4 := h.src.c4
  have f4 := h.src.f4
  have H := Hi h
  clear h
  unfold Sr.seek
  by_cases h1 : n < x.b
  · rw [if_pos (Or.inl h1)]
    have G0 : decide (n < (x.b : Int)) = true := by rw [decide_eq_true_iff]; exact h1
    go_enter Tryz.func109, Tryz.ntmps109
    go_wp2
    go_ret
    exact ⟨rfl, H.out, Chg.refl _ _⟩
  · have G0 : decide (n < (x.b : Int)) = false := by rw [decide_eq_false_iff_not]; exact h1
    by_cases h2 : (x.e : Int) < n
    · rw [if_pos (Or.inr h2)]
      have G1 : decide (n > (x.e : Int)) = true := by rw [decide_eq_true_iff]; exact h2
      go_enter Tryz.func109, Tryz.ntmps109
      go_wp2
      go_ret
      exact ⟨rfl, H.out, Chg.refl _ _⟩
    · rw [if_neg (by omega)]
      have G1 : decide (n > (x.e : Int)) = false := by rw [decide_eq_false_iff_not]; exact h2
      go_enter Tryz.func109, Tryz.ntmps109
      go_wp2
      go_ret
      exact ⟨rfl, ⟨H.out.src.put' n n.toNat (by omega) (by omega) (by omega), H.out.led.put _ (fun e => H.out.src.ne e.symm)⟩, (Chg.refl _ _).set _ _ (Or.inl (Or.inl rfl))⟩
theorem snew_any (L : Nat) (s : ByteArray) (w : World) (hs : s.size ≤ 9223372036854775807) (hL : L < w.heap.size) : Calls Tryz.prog 16 #[.pointer (some ⟨L, 0, none⟩), .string s] w fun e w' =>
      ∃ X, e = .returned (.tuple #[.pointer (some ⟨X, 0, none⟩), .int .i64 0]) ∧ SrcAt w' X ⟨L, s, 0, s.size, 0⟩ ∧ w.heap.size ≤ X ∧ Chg (fun _ => False) w w' := by
  go_enter Tryz.func16, Tryz.ntmps16
  go_wp2
  go_ret2
  exact ⟨w.heap.size, rfl, ⟨obj1_new _ _ _, ⟨Nat.le_refl _, Nat.zero_le _, Nat.le_refl _, hs⟩, by show w.heap.size ≠ L; omega⟩, Nat.le_refl _, (Chg.refl _ _).alloc _⟩
def Sr.fault (x : Sr) (l : Led) (f : Int) : Value := if l.br = true then .agg #[.int .i64 4, .int .i64 f, .int .i64 x.p] else .agg #[.int .i64 1, .int .i64 f, .int .i64 x.e]
theorem fault_any (X : Nat) (x : Sr) (l : Led) (f : Int) (w : World) (h : Pair w X x l) : Calls Tryz.prog 50 #[.pointer (some ⟨X, 0, none⟩), .int .i64 f] w fun e w' => e = .returned (x.fault l f) ∧ Below w.heap.size w w' := by
  have k0 := h.src.c0
  have k3 := h.src.c3
  have k4 := h.src.c4
  have hlt := h.src.lt
  have HL := Hi (fun T => broken_any x.L l (w.alloc (.cells #[.int .i64 0, .int .i64 0, .int .i64 0] T)) ⟨h.led.obj.alloc _, h.led.ok⟩)
  unfold Sr.fault
  obtain ⟨b, hb⟩ : ∃ b, l.br = b := ⟨_, rfl⟩
  rw [hb] at HL ⊢
  clear h hb
  cases b
  · go_enter Tryz.func50, Tryz.ntmps50
    go_wp2_with (go_at_call 83; (with_reducible refine (HL.out _).mono ?_); rintro e w1 ⟨rfl, rfl⟩)
    refine bodyPost_ret (v := .agg #[.int .i64 1, .int .i64 f, .int .i64 x.e]) (by simp [results, Tryz.results50, go_sem]) rfl ⟨rfl, ?_⟩
    exact (Below.refl _ _).alloc (Nat.le_refl _) _
  · go_enter Tryz.func50, Tryz.ntmps50
    go_wp2_with (go_at_call 83; (with_reducible refine (HL.out _).mono ?_); rintro e w1 ⟨rfl, rfl⟩)
    refine bodyPost_ret (v := .agg #[.int .i64 4, .int .i64 f, .int .i64 x.p]) (by simp [results, Tryz.results50, go_sem]) rfl ⟨rfl, ?_⟩
    exact (Below.refl _ _).alloc (Nat.le_refl _) _
def byN (s : ByteArray) (i : Nat) : Int := (s.data.toList.getD i 0).toNat
theorem byN_bd (s : ByteArray) (i : Nat) : 0 ≤ byN s i ∧ byN s i < 256 := by
  unfold byN; have := (s.data.toList.getD i 0).toNat_lt; omega
theorem byN_get (s : ByteArray) (i : Nat) (h : i < s.size) : ((s[i]).toNat : Int) = byN s i := by
  unfold byN
  rw [List.getD_eq_getElem?_getD, List.getElem?_eq_getElem (by simpa using h)]
  rfl
def loK (s : ByteArray) : Nat → Int
  | 0 => 0
  | k + 1 => loK s k + byN s k * 2 ^ (8 * k)
def hiK (s : ByteArray) : Nat → Int
  | 0 => 0
  | k + 1 => hiK s k * 256 + byN s k
theorem pow8 (k : Nat) : (2 : Int) ^ (8 * (k + 1)) = 256 * 2 ^ (8 * k) := by
  rw [show 8 * (k + 1) = 8 * k + 8 by omega, Int.pow_add]; have : (2 : Int) ^ 8 = 256 := by decide
  rw [this, Int.mul_comm]
theorem loK_bd (s : ByteArray) (k : Nat) : 0 ≤ loK s k ∧ loK s k < 2 ^ (8 * k) := by
  induction k with
  | zero => simp [loK]
  | succ k ih =>
    have hb := byN_bd s k
    have hp := pow_pos' (8 * k)
    have h0 : 0 ≤ byN s k * 2 ^ (8 * k) := Int.mul_nonneg hb.1 (by omega)
    have h1 : byN s k * 2 ^ (8 * k) ≤ 255 * 2 ^ (8 * k) := Int.mul_le_mul_of_nonneg_right (by omega) (by omega)
    rw [pow8, loK]; omega
theorem hiK_bd (s : ByteArray) (k : Nat) : 0 ≤ hiK s k ∧ hiK s k < 2 ^ (8 * k) := by
  induction k with
  | zero => simp [hiK]
  | succ k ih =>
    have hb := byN_bd s k
    rw [pow8, hiK]; omega
theorem i64_wraps (n : Int) (h₀ : 0 ≤ n) (h₁ : n < 2 ^ 63) : IntKind.i64.wrap n = n := i64_wrap_id n h₀ h₁
theorem or_low (i : Nat) (v y : Int) (h0 : 0 ≤ v) (h1 : v < 2 ^ i) (hy : 0 ≤ y) (h2 : v + y * 2 ^ i < 2 ^ 62) : bits .or .i64 v (y * 2 ^ i) = v + y * 2 ^ i := by
  have hp := pow_pos' i
  have hm := Int.mul_nonneg hy (Int.le_of_lt hp)
  have h63 : (2 : Int) ^ 63 = 9223372036854775808 := by decide
  have h62 : (2 : Int) ^ 62 = 4611686018427387904 := by decide
  exact bits_join_low .i64 63 (by decide) i64_wraps i v _ h0 h1 (by omega) hm (Int.mul_emod_left _ _) (by omega)
theorem or_high (i : Nat) (v y : Int) (h0 : 0 ≤ v) (h1 : v < 2 ^ i) (hy : 0 ≤ y) (h2 : v + y * 2 ^ i < 2 ^ 62) : bits .or .i64 (y * 2 ^ i) v = y * 2 ^ i + v := by
  have hp := pow_pos' i
  have hm := Int.mul_nonneg hy (Int.le_of_lt hp)
  have h63 : (2 : Int) ^ 63 = 9223372036854775808 := by decide
  have h62 : (2 : Int) ^ 62 = 4611686018427387904 := by decide
  exact bits_join .i64 63 (by decide) i64_wraps i _ v hm (Int.mul_emod_left _ _) (by omega) h0 h1 (by omega)
theorem pow32 (k : Nat) (h : k ≤ 3) : (1 : Int) ≤ 2 ^ (8 * k) ∧ (2 : Int) ^ (8 * k) ≤ 16777216 := by
  have h1 := pow_pos' (8 * k)
  have h2 := pow_le' (show 8 * k ≤ 24 by omega)
  have h3 : (2 : Int) ^ 24 = 16777216 := by decide
  omega
theorem lo_round (s : ByteArray) (k : Nat) (h : k ≤ 3) : bits .or .i64 (loK s k) (wrap64 (wrap64 (byN s k) * 2 ^ (8 * k))) = loK s (k + 1) := by
  have hb := byN_bd s k
  have hl := loK_bd s k
  have hp := pow32 k h
  have h0 : 0 ≤ byN s k * 2 ^ (8 * k) := Int.mul_nonneg hb.1 (by omega)
  have h1 : byN s k * 2 ^ (8 * k) ≤ 255 * 2 ^ (8 * k) := Int.mul_le_mul_of_nonneg_right (by omega) (by omega)
  have h62 : (2 : Int) ^ 62 = 4611686018427387904 := by decide
  rw [IntWalk.wrap64_in (byN s k) (by omega), IntWalk.wrap64_in _ (by omega), or_low (8 * k) _ _ hl.1 hl.2 hb.1 (by omega)]
  rfl
theorem number_lo' (s : ByteArray) (w : World) (hs : s.size ≤ 4) : Calls Tryz.prog 133 #[.string s, .bool true] w fun e w' => e = .returned (.int .i64 (loK s s.size)) ∧ w = w' := by
  go_enter Tryz.func133, Tryz.ntmps133
  go_wp2
  go_loop [5, 6, 9] (fun v j i => ∃ k : Nat, k ≤ s.size ∧ i = .int .i64 k ∧ v = .int .i64 (loK s k)) (fun _ _ i => s.size - (intOf i).toNat)
  case atStart => exact ⟨0, by omega, rfl, rfl⟩
  case round =>
    obtain ⟨k, hk, rfl, rfl⟩ := hrel
    by_cases hlt : k < s.size
    · go_wp2
      go_round
      case rel => exact ⟨k + 1, by omega, by go_num, by rw [byN_get s k hlt, lo_round s k (by omega)]⟩
      case measure => simp [intOf]; omega
    · have E := Hi (show loK s k = loK s s.size by rw [show k = s.size by omega])
      have hge : s.size ≤ k := by omega
      go_wp2
      go_ret
      exact ⟨ret_int E.out, rfl⟩
theorem hi_round (s : ByteArray) (k : Nat) (h : k ≤ 3) : bits .or .i64 (hiK s k * 256) (wrap64 (byN s k)) = hiK s (k + 1) := by
  have hb := byN_bd s k
  have hl := hiK_bd s k
  have hp := pow32 k h
  have h62 : (2 : Int) ^ 62 = 4611686018427387904 := by decide
  have h8 : (2 : Int) ^ 8 = 256 := by decide
  have := or_high 8 (byN s k) (hiK s k) hb.1 (by omega) hl.1 (by omega)
  rw [h8] at this
  rw [IntWalk.wrap64_in (byN s k) (by omega), this]; rfl
theorem number_hi' (s : ByteArray) (w : World) (hs : s.size ≤ 4) : Calls Tryz.prog 133 #[.string s, .bool false] w fun e w' => e = .returned (.int .i64 (hiK s s.size)) ∧ w = w' := by
  go_enter Tryz.func133, Tryz.ntmps133
  go_wp2
  go_loop [5, 6, 9] (fun v j i => ∃ k : Nat, k ≤ s.size ∧ i = .int .i64 k ∧ v = .int .i64 (hiK s k)) (fun _ _ i => s.size - (intOf i).toNat)
  case atStart => exact ⟨0, by omega, rfl, rfl⟩
  case round =>
    obtain ⟨k, hk, rfl, rfl⟩ := hrel
    have hl := hiK_bd s k
    by_cases hlt : k < s.size
    · have hp := pow32 k (by omega)
      obtain ⟨l0, l1⟩ := hl
      have l2 : hiK s k ≤ 16777216 := by omega
      clear l1 hp
      go_wp2
      go_round
      case rel => exact ⟨k + 1, by omega, by go_num, by rw [byN_get s k hlt, hi_round s k (by omega)]⟩
      case measure => simp [intOf]; omega
    · have E := Hi (show hiK s k = hiK s s.size by rw [show k = s.size by omega])
      have hge : s.size ≤ k := by omega
      clear hl
      go_wp2
      go_ret
      exact ⟨ret_int E.out, rfl⟩
/-! ### the document's numbers -/
end Go.Proofs.YtcjjfnghgajefaaGreat

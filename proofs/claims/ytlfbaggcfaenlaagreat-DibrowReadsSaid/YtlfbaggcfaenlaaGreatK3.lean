/- The law TgaheadReads: its comparison, walked. -/
import Derived.Test.YtlfbaggcfaenlaaGreatK2
import Derived.Deep.CutRange
import Derived.Deep.RegionHeld3
import Derived.Test.YtlfbaggcfaenlaaGreatK0
import Derived.Test.YtlfbaggcfaenlaaGreatK1
import Derived.Lib.BufferWrite
import Derived.Deep.RegionHeld
namespace Go.Proofs.YtlfbaggcfaenlaaGreat
open Go.RowKit
set_option linter.unusedVariables false
set_option linter.unusedSimpArgs false
theorem load_og {P : Program} {ops : Array Oper} {rest : List Oper} {op : Oper} {a : Act} {w : World} {Q : Exit → Act → World → Prop} (hw : Region.wanted op (yielded ops a.tmps) = true) (ty : TypeId) (n : Nat) (x : Operand) (ho : op.op = .load ty x)
    (b : Nat) (YS : List Value) (hl : YS.length = n) (hx : a.eval x = .pointer (some ⟨b, 0, none⟩)) {T : TypeId} (hO : Obj1 w b YS.toArray T) {d : TypeDesc} (hu : P.underlying ty = some d) (hd : d.isRow = true) (hi : (P.info? ty).map (·.size) = some n)
    (h : wpList P ops Q rest (a.put op.dst (.agg YS.toArray)) w) : wpList P ops Q (op :: rest) a w := by
  rw [wpList, if_pos hw]
  exact Or.inl (wp_load_mid ty x ho b 0 hx YS d hO.range0 hu hd (by rw [hl]; exact hi) h)
end Go.Proofs.YtlfbaggcfaenlaaGreat
namespace Go.Proofs.YtlfbaggcfaenlaaGreat
open Go.RowKit
set_option linter.unusedVariables false
theorem Obj1.range {w : World} {b : Nat} {cs : Array Value} {T : TypeId} (h : Obj1 w b cs T) (o : Nat) (L : List Value) (hL : (cs.toList.drop o).take L.length = L) : w.rangeAt b o L := fun j v hv => by
  rw [h.cell]
  rw [← hL, List.getElem?_take] at hv
  split at hv
  · rw [List.getElem?_drop] at hv; simpa using hv
  · cases hv
theorem load_ag {P : Program} {ops : Array Oper} {rest : List Oper} {op : Oper} {a : Act} {w : World} {Q : Exit → Act → World → Prop} (hw : Region.wanted op (yielded ops a.tmps) = true) (ty : TypeId) (x : Operand) (ho : op.op = .load ty x)
    (b o : Nat) (YS : List Value) (hx : a.eval x = .pointer (some ⟨b, o, none⟩)) {cs : Array Value} {T : TypeId} (hO : Obj1 w b cs T) (hL : (cs.toList.drop o).take YS.length = YS) {d : TypeDesc} (hu : P.underlying ty = some d) (hd : d.isRow = true) (hi : (P.info? ty).map (·.size) = some YS.length)
    (h : Unit → wpList P ops Q rest (a.put op.dst (.agg YS.toArray)) w) : wpList P ops Q (op :: rest) a w := by
  rw [wpList, if_pos hw]
  exact Or.inl (wp_load_mid ty x ho b o hx YS d (hO.range o YS hL) hu hd hi (h ()))
theorem skip_g {P : Program} {ops : Array Oper} {rest : List Oper} {op : Oper} {a : Act} {w : World} {Q : Exit → Act → World → Prop} {g : Nat × Bool} (hg : op.guard = some g) (hw : Region.wanted op (yielded ops a.tmps) = false) (h : Unit → wpList P ops Q rest (a.put op.dst undef) w) : wpList P ops Q (op :: rest) a w := by
  rw [wpList, if_neg (by simp [hw])]; exact h ()
theorem store_a {P : Program} {ops : Array Oper} {rest : List Oper} {op : Oper} {a : Act} {w : World} {Q : Exit → Act → World → Prop} (hgd : op.guard = none) (ty : TypeId) (x y : Operand) (ho : op.op = .store ty x y)
    (b o : Nat) (YS : List Value) (h1 : YS.all (·.oneCell') = true) (hx : a.eval x = .pointer (some ⟨b, o, none⟩)) (hy : a.eval y = .agg YS.toArray) (hi : (P.info? ty).map (·.size) = some YS.length) {cs : Array Value} {T : TypeId} (hO : Obj1 w b cs T) (hs : o + YS.length ≤ cs.size)
    (h : ∀ w2, Stored w b o YS w2 → Obj1 w2 b (setL cs o YS) T → wpList P ops Q rest (a.put op.dst undef) w2) : wpList P ops Q (op :: rest) a w :=
  store_gen hgd ty x y ho b o YS.toArray hx hy (by have := hO.there o YS.length hs; simpa using this) (by rw [List.size_toArray]; exact hi) (by simpa using h1)
    fun w2 hst => h w2 (by simpa using hst) ((show Stored w b o YS w2 by simpa using hst).obj hO)
theorem load_u {P : Program} {ops : Array Oper} {rest : List Oper} {op : Oper} {a : Act} {w : World} {Q : Exit → Act → World → Prop} (hw : Region.wanted op (yielded ops a.tmps) = true) (ty : TypeId) (n : Nat) (x : Operand) (ho : op.op = .load ty x)
    (b : Nat) (YS : List Value) (hl : YS.length = n) (hx : a.eval x = .pointer (some ⟨b, 0, none⟩)) {T : TypeId} (hO : Obj1 w b YS.toArray T) {d : TypeDesc} (hu : P.underlying ty = some d) (hd : d.isRow = true) (hi : (P.info? ty).map (·.size) = some n)
    (h : Unit → wpList P ops Q rest (a.put op.dst (.agg YS.toArray)) w) : wpList P ops Q (op :: rest) a w := load_og hw ty n x ho b YS hl hx hO hu hd hi (h ())
theorem Obj1.cells {w : World} {b : Nat} {cs cs' : Array Value} {T : TypeId} (h : Obj1 w b cs T) (e : cs = cs') : Obj1 w b cs' T := e ▸ h
theorem Pair.alloc {w : World} {X : Nat} {x : Sr} {l : Led} (h : Pair w X x l) (o : Obj) : Pair (w.alloc o) X x l :=
  h.upon ((Below.refl w.heap.size w).alloc (Nat.le_refl _) o) h.src.lt h.led.lt
theorem Pair.drew1 {w : World} {X : Nat} {x : Sr} {l : Led} (h : Pair w X x l) : Pair w.drew X x l := ⟨⟨h.src.obj.drew, h.src.ok, h.src.ne⟩, ⟨h.led.obj.drew, h.led.ok⟩⟩
theorem Chg.setc {S : Nat → Prop} {a w : World} (h : Chg S a w) (b o : Nat) (v : Value) (hb : a.heap.size ≤ b) : Chg S a (w.setCell ⟨b, o, none⟩ v) := h.set _ v (Or.inr hb)
theorem Pair.setc {w : World} {X b o : Nat} {x : Sr} {l : Led} (h : Pair w X x l) (v : Value) (h1 : X ≠ b) (h2 : x.L ≠ b) : Pair (w.setCell ⟨b, o, none⟩ v) X x l :=
  h.into (b := b) (o := o) (vs := [v]) rfl h1 h2
end Go.Proofs.YtlfbaggcfaenlaaGreat
namespace Go.Proofs.YtlfbaggcfaenlaaGreat
open Go.RowKit
set_option linter.unusedVariables false
set_option linter.unusedSimpArgs false
def Led.take (s : Led) (n : Int) : Led × Bool := if s.br = true then (s, false) else if n < 0 ∨ s.mb - s.bt < n then (s.refuse 2 n, false) else ({ s with bt := s.bt + n, pk := if s.bt + n ≤ s.pk then s.pk else s.bt + n }, true)
theorem Led.take_ok {s : Led} (h : s.ok) (n : Int) : (s.take n).1.ok := by
  obtain ⟨a, b, c, d, e, f⟩ := h
  unfold Led.take
  by_cases h1 : s.br = true
  · rw [if_pos h1]; exact ⟨a, b, c, d, e, f⟩
  · rw [if_neg h1]
    by_cases h2 : n < 0 ∨ s.mb - s.bt < n
    · rw [if_pos h2]; exact ⟨a, b, c, d, e, f⟩
    · rw [if_neg h2]; exact ⟨by show 0 ≤ s.bt + n; omega, by show s.bt + n ≤ s.mb; omega, c, d, e, f⟩
set_option maxRecDepth 100000 in
theorem take_no (L : Nat) (n most : Int) (R : World → Prop) (w : World) (hm : w.cell? ⟨L, 2, none⟩ = some (.int .i64 most))
    (HA : Calls Tryz.prog 216 #[.pointer (some ⟨L, 0, none⟩), .pointer (some ⟨L, 4, none⟩), .int .i64 n, .int .i64 most, .int .i64 2] (w.drewN 1) fun e w' => e = .returned (.bool false) ∧ R w') :
    Calls Tryz.prog 151 #[.pointer (some ⟨L, 0, none⟩), .int .i64 n] w fun e w' => e = .returned (.bool false) ∧ R w' := by
  have HA := Hi HA
  go_enter Tryz.func151, Tryz.ntmps151
  go_wp2
  go_still_tail 10, (by kernel_rfl)
  rw [show (⟨w.heap, w.tape, w.drawn + 1, w.os, w.output⟩ : World) = w.drewN 1 from rfl]
  go_wp2_with (go_at_call 216; (with_reducible refine (HA.out).mono ?_); rintro e w1 ⟨rfl, hR⟩)
  go_ret
  exact ⟨rfl, hR⟩
set_option maxRecDepth 100000 in
theorem take_yes (L : Nat) (n most bt pk : Int) (w : World) (hm : w.cell? ⟨L, 2, none⟩ = some (.int .i64 most)) (w1 : World)
    (HA : Calls Tryz.prog 216 #[.pointer (some ⟨L, 0, none⟩), .pointer (some ⟨L, 4, none⟩), .int .i64 n, .int .i64 most, .int .i64 2] (w.drewN 1) fun e w' => e = .returned (.bool true) ∧ w1 = w')
    (hb : w1.cell? ⟨L, 4, none⟩ = some (.int .i64 bt)) (hp : w1.cell? ⟨L, 5, none⟩ = some (.int .i64 pk)) (hf : w1.frozen? ⟨L, 5, none⟩ = false) :
    Calls Tryz.prog 151 #[.pointer (some ⟨L, 0, none⟩), .int .i64 n] w fun e w' => e = .returned (.bool true) ∧ ∃ k, w' = if bt ≤ pk then w1.drewN k else (w1.drewN k).setCell ⟨L, 5, none⟩ (.int .i64 bt) := by
  have HA := Hi HA
  have HB := Hi (fun w0 (h : w0.cell? ⟨L, 4, none⟩ = some (.int .i64 bt)) => (aload64 L 4 bt w0 h).mono (R' := fun e w' => e = .returned (.int .i64 bt) ∧ w' = w0) fun e w' hh => ⟨hh.1, hh.2.symm⟩)
  have HP := Hi (fun w0 (h : w0.cell? ⟨L, 5, none⟩ = some (.int .i64 pk)) => (aload64 L 5 pk w0 h).mono (R' := fun e w' => e = .returned (.int .i64 pk) ∧ w' = w0) fun e w' hh => ⟨hh.1, hh.2.symm⟩)
  have HC := Hi (fun w0 (h : w0.cell? ⟨L, 5, none⟩ = some (.int .i64 pk)) (hz : w0.frozen? ⟨L, 5, none⟩ = false) => acas64 L 5 pk bt w0 h hz)
  go_enter Tryz.func151, Tryz.ntmps151
  go_wp2
  go_still_tail 10, (by kernel_rfl)
  rw [show (⟨w.heap, w.tape, w.drawn + 1, w.os, w.output⟩ : World) = w.drewN 1 from rfl]
  go_wp2_with (go_at_call 216; (with_reducible refine (HA.out).mono ?_); rintro e w2 ⟨rfl, rfl⟩)
  refine wp_loop_rounds 1 ?_
  rw [rounds_succ]
  go_upto_region 3 with (fail)
  go_quiet ((first
    | (go_at_call 80; exact Calls.quiet_of_same (HB.out _ (by exact hb)))
    | (go_at_call 80; exact Calls.quiet_of_same (HP.out _ (by exact hp)))))
  by_cases hle : bt ≤ pk
  · go_wp2_with ((with_reducible refine skip_g rfl ?_ ?_); rfl; intro _)
    go_ret
    exact ⟨rfl, _, by first | rfl | (rw [if_pos hle])⟩
  · go_wp2_with (first
      | ((with_reducible refine skip_g rfl ?_ ?_); rfl; intro _)
      | (go_at_call 217; (with_reducible refine (HC.out _ (by rw [World.cell?_drewN]; exact hp) (by rw [World.frozen?_drewN]; exact hf)).mono ?_); rintro e w3 ⟨rfl, rfl⟩))
    go_ret
    exact ⟨rfl, _, by first | rfl | (rw [if_neg hle])⟩
theorem ltake_any (L : Nat) (s : Led) (n : Int) (w : World) (h : LedAt w L s) : Calls Tryz.prog 151 #[.pointer (some ⟨L, 0, none⟩), .int .i64 n] w fun e w' =>
      e = .returned (.bool (s.take n).2) ∧ LedAt w' L (s.take n).1 ∧ Chg (· = L) w w' := by
  have hk := Led.take_ok h.ok n
  have h' : LedAt (w.drewN 1) L s := ⟨h.obj.drewN 1, h.ok⟩
  obtain ⟨ho, hok⟩ := h
  have ho1 := ho.drewN 1
  by_cases h1 : s.br = true
  · have e1 : s.take n = (s, false) := by unfold Led.take; rw [if_pos h1]
    rw [e1]
    refine take_no L n s.mb (fun w' => LedAt w' L s ∧ Chg (· = L) w w') w ((ho.cell 2).trans rfl) ((add_broken L 4 n s.mb 2 _ ((ho1.cell 7).trans (by unfold Led.cells; rw [h1]; rfl))).mono ?_)
    rintro e w' ⟨rfl, rfl⟩
    exact ⟨rfl, h', (Chg.refl _ w).drewN 1⟩
  · have hf : s.br = false := by cases hb : s.br <;> simp_all
    by_cases h2 : n < 0 ∨ s.mb - s.bt < n
    · have e1 : s.take n = (s.refuse 2 n, false) := by unfold Led.take; rw [if_neg h1, if_pos h2]
      rw [e1] at hk ⊢
      have ho' : Obj1 (w.drewN 1) L #[.int .i64 s.mw, .int .i64 s.mh, .int .i64 s.mb, .int .i64 s.mx, .int .i64 s.bt, .int .i64 s.pk, .int .i64 s.st, .int .u32 0, .int .u32 0, .int .i32 0, .int .u32 0, .int .i64 s.rs, .int .i64 s.ak] 125 := by
        have := ho1; unfold Led.cells at this; rw [hf] at this; exact this
      refine take_no L n s.mb (fun w' => LedAt w' L (s.refuse 2 n) ∧ Chg (· = L) w w') w ((ho.cell 2).trans rfl) ((add_no L 4 n s.mb 2 s.bt _ _ _ _ _ _ _ _ _ _ _ _ ho' ((ho1.cell 4).trans rfl) h2 hok.b0 hok.b1 hok.b2).mono ?_)
      rintro e w' ⟨rfl, hO, hC⟩
      exact ⟨rfl, ⟨hO, hk⟩, ((Chg.refl _ w).drewN 1).trans hC⟩
    · have e1 : s.take n = ({ s with bt := s.bt + n, pk := if s.bt + n ≤ s.pk then s.pk else s.bt + n }, true) := by unfold Led.take; rw [if_neg h1, if_neg h2]
      rw [e1] at hk ⊢
      have ho2 := ho1.set 4 (.int .i64 (s.bt + n))
      refine (take_yes L n s.mb (s.bt + n) s.pk w ((ho.cell 2).trans rfl) _ (add_ok L 4 n s.mb 2 s.bt _ ((ho1.cell 7).trans (by unfold Led.cells; rw [hf]; rfl)) ((ho1.cell 4).trans rfl) (ho1.frozen 4) (by omega) (by omega) hok.b0 hok.b1 hok.b2) ((ho2.cell 4).trans rfl) ((ho2.cell 5).trans rfl) (ho2.frozen 5)).mono ?_
      rintro e w' ⟨rfl, k, rfl⟩
      refine ⟨rfl, ?_, ?_⟩
      · by_cases hle : s.bt + n ≤ s.pk
        · rw [if_pos hle] at hk ⊢
          rw [if_pos hle]
          exact ⟨ho2.drewN k, hk⟩
        · rw [if_neg hle] at hk ⊢
          rw [if_neg hle]
          exact ⟨(ho2.drewN k).set 5 _, hk⟩
      · have hc : Chg (· = L) w ((w.drewN 1).setCell ⟨L, 4, none⟩ (.int .i64 (s.bt + n))) := ((Chg.refl _ w).drewN 1).set _ _ (Or.inl rfl)
        split
        · exact hc.drewN k
        · exact (hc.drewN k).set _ _ (Or.inl rfl)
def Led.sides (s : Led) (a b : Int) : Led × Bool := if s.br = true then (s, false) else if a < 1 ∨ s.mw < a then (s.refuse 1 a, false) else if b < 1 ∨ s.mh < b then (s.refuse 1 b, false) else (s, true)
set_option maxRecDepth 100000 in
set_option maxHeartbeats 4000000 in
theorem lsides_any (L : Nat) (s : Led) (a b : Int) (w : World) (h : LedAt w L s) : Calls Tryz.prog 77 #[.pointer (some ⟨L, 0, none⟩), .int .i64 a, .int .i64 b] w fun e w' =>
      e = .returned (.bool (s.sides a b).2) ∧ LedAt w' L (s.sides a b).1 ∧ Chg (· = L) w w' := by
  have hok := h.ok
  have c0 : w.cell? ⟨L, 0, none⟩ = some (.int .i64 s.mw) := (h.obj.cell 0).trans rfl
  have c1 : w.cell? ⟨L, 1, none⟩ = some (.int .i64 s.mh) := (h.obj.cell 1).trans rfl
  have H := Hi h
  unfold Led.sides
  cases hb : s.br with
  | true =>
    rw [if_pos rfl]
    have HB := Hi (bload_t L 7 w ((h.obj.cell 7).trans (by unfold Led.cells; rw [hb]; rfl)))
    clear h hb
    go_enter Tryz.func77, Tryz.ntmps77
    go_wp2_with (go_at_call 119; (with_reducible refine (HB.out).mono ?_); rintro e w1 ⟨rfl, rfl⟩)
    go_ret
    exact ⟨rfl, H.out, Chg.refl _ _⟩
  | false =>
    rw [if_neg (by decide)]
    have HB := Hi (bload_f L 7 w ((h.obj.cell 7).trans (by unfold Led.cells; rw [hb]; rfl)))
    have ho' : Obj1 w L #[.int .i64 s.mw, .int .i64 s.mh, .int .i64 s.mb, .int .i64 s.mx, .int .i64 s.bt, .int .i64 s.pk, .int .i64 s.st, .int .u32 0, .int .u32 0, .int .i32 0, .int .u32 0, .int .i64 s.rs, .int .i64 s.ak] 125 := by
      have := h.obj; unfold Led.cells at this; rw [hb] at this; exact this
    have HR := Hi (fun n => (refuse_any L 1 n _ _ _ _ _ _ _ _ _ _ _ w ho').mono (R' := fun e w' => e = .returned (.bool false) ∧ LedAt w' L (s.refuse 1 n) ∧ Chg (· = L) w w') fun e w' hh => ⟨hh.1, ⟨hh.2.1, hok.b0, hok.b1, hok.b2, hok.s0, hok.s1, hok.s2⟩, hh.2.2⟩)
    obtain ⟨mw, hmw⟩ : ∃ m, s.mw = m := ⟨_, rfl⟩
    obtain ⟨mh, hmh⟩ : ∃ m, s.mh = m := ⟨_, rfl⟩
    rw [hmw] at c0
    rw [hmh] at c1
    rw [hmw, hmh]
    clear h hb ho' hok hmw hmh
    have hcase : (a < 1) ∨ (¬ a < 1 ∧ mw < a) ∨ (¬ a < 1 ∧ ¬ mw < a ∧ b < 1) ∨ (¬ a < 1 ∧ ¬ mw < a ∧ ¬ b < 1 ∧ mh < b) ∨ (¬ a < 1 ∧ ¬ mw < a ∧ ¬ b < 1 ∧ ¬ mh < b) := by omega
    rcases hcase with h1 | ⟨h1, h2⟩ | ⟨h1, h2, h3⟩ | ⟨h1, h2, h3, h4⟩ | ⟨h1, h2, h3, h4⟩
    · rw [if_pos (Or.inl h1)]
      go_enter Tryz.func77, Tryz.ntmps77
      go_wp2_with (first
        | ((with_reducible refine skip_g rfl ?_ ?_); rfl; intro _)
        | (go_at_call 119; (with_reducible refine (HB.out).mono ?_); rintro e w1 ⟨rfl, rfl⟩)
        | (go_at_call 148; (with_reducible refine (HR.out _).mono ?_); rintro e w1 ⟨rfl, hO, hC⟩))
      go_ret
      exact ⟨rfl, hO, hC⟩
    · rw [if_pos (Or.inr h2)]
      go_enter Tryz.func77, Tryz.ntmps77
      go_wp2_with (first
        | ((with_reducible refine skip_g rfl ?_ ?_); rfl; intro _)
        | (go_at_call 119; (with_reducible refine (HB.out).mono ?_); rintro e w1 ⟨rfl, rfl⟩)
        | (go_at_call 148; (with_reducible refine (HR.out _).mono ?_); rintro e w1 ⟨rfl, hO, hC⟩))
      go_ret
      exact ⟨rfl, hO, hC⟩
    · rw [if_neg (by omega), if_pos (Or.inl h3)]
      go_enter Tryz.func77, Tryz.ntmps77
      go_wp2_with (first
        | ((with_reducible refine skip_g rfl ?_ ?_); rfl; intro _)
        | (go_at_call 119; (with_reducible refine (HB.out).mono ?_); rintro e w1 ⟨rfl, rfl⟩)
        | (go_at_call 148; (with_reducible refine (HR.out _).mono ?_); rintro e w1 ⟨rfl, hO, hC⟩))
      go_ret
      exact ⟨rfl, hO, hC⟩
    · rw [if_neg (by omega), if_pos (Or.inr h4)]
      go_enter Tryz.func77, Tryz.ntmps77
      go_wp2_with (first
        | ((with_reducible refine skip_g rfl ?_ ?_); rfl; intro _)
        | (go_at_call 119; (with_reducible refine (HB.out).mono ?_); rintro e w1 ⟨rfl, rfl⟩)
        | (go_at_call 148; (with_reducible refine (HR.out _).mono ?_); rintro e w1 ⟨rfl, hO, hC⟩))
      go_ret
      exact ⟨rfl, hO, hC⟩
    · rw [if_neg (by omega), if_neg (by omega)]
      go_enter Tryz.func77, Tryz.ntmps77
      go_wp2_with (first
        | ((with_reducible refine skip_g rfl ?_ ?_); rfl; intro _)
        | (go_at_call 119; (with_reducible refine (HB.out).mono ?_); rintro e w1 ⟨rfl, rfl⟩))
      go_ret
      exact ⟨rfl, H.out, Chg.refl _ _⟩
def Led.give (s : Led) (n : Int) : Led × Bool := if n < 0 ∨ s.bt < n then (s, false) else ({ s with bt := s.bt - n }, true)
theorem Led.give_ok {s : Led} (h : s.ok) (n : Int) : (s.give n).1.ok := by
  obtain ⟨a, b, c, d, e, f⟩ := h
  unfold Led.give
  by_cases h2 : n < 0 ∨ s.bt < n
  · rw [if_pos h2]; exact ⟨a, b, c, d, e, f⟩
  · rw [if_neg h2]; exact ⟨by show 0 ≤ s.bt - n; omega, by show s.bt - n ≤ s.mb; omega, c, d, e, f⟩
set_option maxRecDepth 100000 in
set_option maxHeartbeats 4000000 in
theorem give_any (L : Nat) (s : Led) (n : Int) (w : World) (h : LedAt w L s) : Calls Tryz.prog 210 #[.pointer (some ⟨L, 0, none⟩), .int .i64 n] w fun e w' =>
      e = .returned (.bool (s.give n).2) ∧ LedAt w' L (s.give n).1 ∧ Chg (· = L) w w' := by
  have hk := Led.give_ok h.ok n
  have HL := Hi (aload64 L 4 s.bt w ((h.obj.cell 4).trans rfl))
  have HC := Hi (fun y => acas64 L 4 s.bt y w ((h.obj.cell 4).trans rfl) (h.obj.frozen 4))
  have H := Hi h
  have hb0 := h.ok.b0
  have hb1 := h.ok.b1
  have hb2 := h.ok.b2
  have FIN := Hi (fun (hh : ¬ (n < 0 ∨ s.bt < n)) => (show LedAt (w.setCell ⟨L, 4, none⟩ (.int .i64 (s.bt - n))) L (s.give n).1 from ⟨by unfold Led.give; rw [if_neg hh]; exact h.obj.set 4 _, hk⟩))
  have CH := Hi (fun v => (Chg.refl (· = L) w).set ⟨L, 4, none⟩ v (Or.inl rfl))
  have h' : (n < 0 ∨ s.bt < n) → (s.give n) = (s, false) := fun hh => by unfold Led.give; rw [if_pos hh]
  have h2' : ¬ (n < 0 ∨ s.bt < n) → (s.give n).2 = true := fun hh => by unfold Led.give; rw [if_neg hh]
  have HN := Hi h'
  have HY := Hi h2'
  clear h' h2' hk h
  obtain ⟨bt, hbt⟩ : ∃ b, s.bt = b := ⟨_, rfl⟩
  rw [hbt] at HL HC hb0 hb1 HN HY FIN
  clear hbt
  have hcase : (n < 0) ∨ (¬ n < 0 ∧ bt < n) ∨ (¬ n < 0 ∧ ¬ bt < n) := by omega
  rcases hcase with h1 | ⟨h1, h2⟩ | ⟨h1, h2⟩
  · rw [HN.out (Or.inl h1)]
    go_enter Tryz.func210, Tryz.ntmps210
    go_wp2
    refine wp_loop_rounds 1 ?_
    rw [rounds_succ]
    go_wp2_with (first
      | ((with_reducible refine skip_g rfl ?_ ?_); rfl; intro _)
      | (go_at_call 80; (with_reducible refine (HL.out).mono ?_); rintro e w1 ⟨rfl, rfl⟩))
    go_ret
    exact ⟨rfl, H.out, Chg.refl _ _⟩
  · rw [HN.out (Or.inr h2)]
    go_enter Tryz.func210, Tryz.ntmps210
    go_wp2
    refine wp_loop_rounds 1 ?_
    rw [rounds_succ]
    go_wp2_with (first
      | ((with_reducible refine skip_g rfl ?_ ?_); rfl; intro _)
      | (go_at_call 80; (with_reducible refine (HL.out).mono ?_); rintro e w1 ⟨rfl, rfl⟩))
    go_ret
    exact ⟨rfl, H.out, Chg.refl _ _⟩
  · rw [HY.out (by omega)]
    have FIN := Hi (FIN.out (by omega))
    go_enter Tryz.func210, Tryz.ntmps210
    go_wp2
    refine wp_loop_rounds 1 ?_
    rw [rounds_succ]
    go_wp2_with (first
      | ((with_reducible refine skip_g rfl ?_ ?_); rfl; intro _)
      | (go_at_call 80; (with_reducible refine (HL.out).mono ?_); rintro e w1 ⟨rfl, rfl⟩)
      | (go_at_call 217; (with_reducible refine (HC.out _).mono ?_); rintro e w3 ⟨rfl, rfl⟩))
    go_ret
    exact ⟨rfl, FIN.out, CH.out _⟩
theorem lbytes_any (L : Nat) (s : Led) (w : World) (h : LedAt w L s) : Calls Tryz.prog 31 #[.pointer (some ⟨L, 0, none⟩)] w fun e w' => e = .returned (.int .i64 s.bt) ∧ w = w' := by
  have HL := Hi (aload64 L 4 s.bt w ((h.obj.cell 4).trans rfl))
  have b1 := h.ok.b0
  clear h
  go_enter Tryz.func31, Tryz.ntmps31
  go_wp2_with (go_at_call 80; (with_reducible refine (HL.out).mono ?_); rintro e w1 ⟨rfl, rfl⟩)
  go_ret
  exact ⟨rfl, rfl⟩
structure Bf where
  L : Nat
  g : Nat
  d : List Int
  op : Bool
def Bf.cells (b : Bf) : List Value := [.pointer (some ⟨b.L, 0, none⟩), if b.op = true then .slice (some ⟨b.g, 0, none⟩) b.d.length b.d.length else .slice none 0 0, .int .u32 (if b.op = true then 0 else 1), .int .i32 0, .int .u32 0]
def u8s (l : List Int) : List Value := l.map (.int .u8)
structure BufAt (w : World) (B : Nat) (b : Bf) : Prop where
  obj : Obj1 w B b.cells.toArray 233
  dat : b.op = true → Obj1 w b.g (u8s b.d).toArray 5
  byt : ∀ x ∈ b.d, 0 ≤ x ∧ x < 256
  ne : B ≠ b.g
  nl : B ≠ b.L
  gl : b.g ≠ b.L
  sz : b.d.length ≤ 2147483648
theorem BufAt.chg {S : Nat → Prop} {w w' : World} {B : Nat} {b : Bf} (h : BufAt w B b) (hc : Chg S w w') (h1 : ¬ S B) (h2 : ¬ S b.g) : BufAt w' B b :=
  ⟨hc.obj h.obj h1, fun ho => hc.obj (h.dat ho) h2, h.byt, h.ne, h.nl, h.gl, h.sz⟩
theorem BufAt.c0 {w : World} {B : Nat} {b : Bf} (h : BufAt w B b) : w.cell? ⟨B, 0, none⟩ = some (.pointer (some ⟨b.L, 0, none⟩)) := (h.obj.cell 0).trans rfl
theorem BufAt.c1 {w : World} {B : Nat} {b : Bf} (h : BufAt w B b) (ho : b.op = true) : w.cell? ⟨B, 1, none⟩ = some (.slice (some ⟨b.g, 0, none⟩) b.d.length b.d.length) := (h.obj.cell 1).trans (by unfold Bf.cells; rw [if_pos ho]; rfl)
theorem BufAt.c1n {w : World} {B : Nat} {b : Bf} (h : BufAt w B b) (ho : b.op = false) : w.cell? ⟨B, 1, none⟩ = some (.slice none 0 0) := (h.obj.cell 1).trans (by unfold Bf.cells; rw [ho]; rfl)
theorem BufAt.lt {w : World} {B : Nat} {b : Bf} (h : BufAt w B b) : B < w.heap.size := h.obj.lt
theorem BufAt.glt {w : World} {B : Nat} {b : Bf} (h : BufAt w B b) (ho : b.op = true) : b.g < w.heap.size := (h.dat ho).lt
def Bf.there (b : Bf) (i n : Int) : Bool := b.op && decide (0 ≤ i) && decide (0 ≤ n) && decide (i ≤ b.d.length) && decide (n ≤ (b.d.length : Int) - i)
theorem bthere_any (B : Nat) (b : Bf) (i n : Int) (w : World) (h : BufAt w B b) (hi : i ≤ 4611686018427387904) : Calls Tryz.prog 227 #[.pointer (some ⟨B, 0, none⟩), .int .i64 i, .int .i64 n] w fun e w' => e = .returned (.bool (b.there i n)) ∧ w' = w := by
  have hsz := h.sz
  cases ho : b.op with
  | false =>
    have c1 := h.c1n ho
    have HT := Hi (show b.there i n = false by unfold Bf.there; rw [ho]; rfl)
    rw [HT.out]
    clear h ho
    go_enter Tryz.func227, Tryz.ntmps227
    go_wp2_with ((with_reducible refine skip_g rfl ?_ ?_); rfl; intro _)
    go_ret
    exact ⟨rfl, rfl⟩
  | true =>
    have c1 := h.c1 ho
    have HT : b.there i n = (decide (0 ≤ i) && decide (0 ≤ n) && decide (i ≤ b.d.length) && decide (n ≤ (b.d.length : Int) - i)) := by unfold Bf.there; rw [ho]; rfl
    obtain ⟨m, hm⟩ : ∃ m, b.d.length = m := ⟨_, rfl⟩
    rw [hm] at c1 HT hsz
    rw [HT]
    clear h ho hm HT
    have hcase : (i < 0) ∨ (¬ i < 0 ∧ n < 0) ∨ (¬ i < 0 ∧ ¬ n < 0 ∧ (m : Int) < i) ∨ (¬ i < 0 ∧ ¬ n < 0 ∧ ¬ (m : Int) < i ∧ (m : Int) - i < n) ∨ (¬ i < 0 ∧ ¬ n < 0 ∧ ¬ (m : Int) < i ∧ ¬ (m : Int) - i < n) := by omega
    rcases hcase with h1 | ⟨h1, h2⟩ | ⟨h1, h2, h3⟩ | ⟨h1, h2, h3, h4⟩ | ⟨h1, h2, h3, h4⟩
    · have HR := Hi (show (decide (0 ≤ i) && decide (0 ≤ n) && decide (i ≤ (m : Int)) && decide (n ≤ (m : Int) - i)) = false by rw [decide_eq_false (show ¬ 0 ≤ i by omega)]; rfl)
      rw [HR.out]
      go_enter Tryz.func227, Tryz.ntmps227
      go_wp2_with ((with_reducible refine skip_g rfl ?_ ?_); rfl; intro _)
      go_ret
      exact ⟨rfl, rfl⟩
    · have HR := Hi (show (decide (0 ≤ i) && decide (0 ≤ n) && decide (i ≤ (m : Int)) && decide (n ≤ (m : Int) - i)) = false by rw [decide_eq_false (show ¬ 0 ≤ n by omega), Bool.and_false]; rfl)
      rw [HR.out]
      go_enter Tryz.func227, Tryz.ntmps227
      go_wp2_with ((with_reducible refine skip_g rfl ?_ ?_); rfl; intro _)
      go_ret
      exact ⟨rfl, rfl⟩
    · have HR := Hi (show (decide (0 ≤ i) && decide (0 ≤ n) && decide (i ≤ (m : Int)) && decide (n ≤ (m : Int) - i)) = false by rw [decide_eq_false (show ¬ i ≤ (m : Int) by omega), Bool.and_false]; rfl)
      rw [HR.out]
      go_enter Tryz.func227, Tryz.ntmps227
      go_wp2_with ((with_reducible refine skip_g rfl ?_ ?_); rfl; intro _)
      go_ret
      exact ⟨rfl, rfl⟩
    · have HR := Hi (show (decide (0 ≤ i) && decide (0 ≤ n) && decide (i ≤ (m : Int)) && decide (n ≤ (m : Int) - i)) = false by rw [decide_eq_false (show ¬ n ≤ (m : Int) - i by omega), Bool.and_false])
      rw [HR.out]
      have g4 : ¬ n ≤ (m : Int) - i := by omega
      go_enter Tryz.func227, Tryz.ntmps227
      go_wp2_with ((with_reducible refine skip_g rfl ?_ ?_); rfl; intro _)
      go_ret
      exact ⟨rfl, rfl⟩
    · have HR := Hi (show (decide (0 ≤ i) && decide (0 ≤ n) && decide (i ≤ (m : Int)) && decide (n ≤ (m : Int) - i)) = true by rw [decide_eq_true (show 0 ≤ i by omega), decide_eq_true (show 0 ≤ n by omega), decide_eq_true (show i ≤ (m : Int) by omega), decide_eq_true (show n ≤ (m : Int) - i by omega)]; rfl)
      have g1 : 0 ≤ i := by omega
      have g2 : 0 ≤ n := by omega
      have g3 : i ≤ (m : Int) := by omega
      have g4 : n ≤ (m : Int) - i := by omega
      clear h1 h2 h3 h4
      rw [HR.out]
      go_enter Tryz.func227, Tryz.ntmps227
      go_wp2_with ((with_reducible refine skip_g rfl ?_ ?_); rfl; intro _)
      go_ret
      exact ⟨rfl, rfl⟩
def zeros8 (n : Nat) : List Int := List.replicate n 0
theorem mkU8 (w : World) (n : Nat) (hn : n ≤ 2147483648) : (Instr.makeSlice 61 (.int .i64 n) (.int .i64 n)).run Tryz.prog w = .ok (.slice (some ⟨w.heap.size, 0, none⟩) n n) (w.alloc (.cells (u8s (zeros8 n)).toArray 5)) := by
  obtain ⟨i, hi, hz0, hz1, hz2⟩ := info_parts (P := Tryz.prog) (e := 5) (z := .int .u8 0) (size := 1) (bytes := 1) (by kernel_rfl)
  have hr := run_make (P := Tryz.prog) w 61 5 i _ Tryz.underlying61 hi hz0 .i64 .i64 n n (by omega) (Int.le_refl _) (by rw [hz2]; omega) (by omega)
  rw [hr, hz1]
  have e : madeCells (Value.int .u8 0).cells (n * 1) = (u8s (zeros8 n)).toArray := by
    have h1 := toList_madeCells_one (Value.int .u8 0) n
    rw [Nat.mul_one]
    apply Array.ext'
    show (madeCells #[Value.int .u8 0] n).toList = _
    rw [h1]
    simp [u8s, zeros8]
  simp only [Int.toNat_natCast]
  rw [e]
def MakePost (w : World) (L : Nat) (s : Led) (n : Int) (e : Ending) (w' : World) : Prop :=
  (if n < 0 then e = .returned (.tuple #[.pointer none, .int .i64 1]) ∧ LedAt w' L s else
   if (s.take n).2 = false then e = .returned (.tuple #[.pointer none, .int .i64 4]) ∧ LedAt w' L (s.take n).1 else
   ∃ B g, e = .returned (.tuple #[.pointer (some ⟨B, 0, none⟩), .int .i64 0]) ∧ LedAt w' L (s.take n).1 ∧ BufAt w' B ⟨L, g, zeros8 n.toNat, true⟩ ∧ w.heap.size ≤ B ∧ w.heap.size ≤ g) ∧ Chg (· = L) w w'
set_option maxRecDepth 100000 in
set_option maxHeartbeats 4000000 in
theorem bmake_any (L : Nat) (s : Led) (n : Int) (w : World) (h : LedAt w L s) (hn : n ≤ 2147483648) : Calls Tryz.prog 79 #[.pointer (some ⟨L, 0, none⟩), .int .i64 n] w (MakePost w L s n) := by
  have HL := Hi h
  by_cases h1 : n < 0
  · have HN := Hi h1
    clear h
    go_enter Tryz.func79, Tryz.ntmps79
    go_wp2_with ((with_reducible refine skip_g rfl ?_ ?_); rfl; intro _)
    go_ret2
    unfold MakePost
    rw [if_pos HN.out]
    exact ⟨⟨rfl, HL.out⟩, Chg.refl _ _⟩
  have HN := Hi (show ¬ n < 0 from h1)
  have HT := Hi (ltake_any L s n w h)
  have hlt := h.lt
  obtain ⟨n, rfl⟩ := Int.eq_ofNat_of_zero_le (show 0 ≤ n by omega)
  clear h
  cases hb : (s.take n).2 with
  | false =>
    have HT := Hi (HT.out.mono (R' := fun e w' => e = .returned (.bool false) ∧ LedAt w' L (s.take n).1 ∧ Chg (· = L) w w') fun e w' hh => by rw [hb] at hh; exact hh)
    have HB := Hi hb
    clear hb
    go_enter Tryz.func79, Tryz.ntmps79
    go_wp2_with (first
      | ((with_reducible refine skip_g rfl ?_ ?_); rfl; intro _)
      | (go_at_call 151; (with_reducible refine (HT.out).mono ?_); rintro e w1 ⟨rfl, hL, hC⟩))
    go_ret2
    unfold MakePost
    rw [if_neg (Int.not_lt.2 HN.out), if_pos HB.out]
    exact ⟨⟨rfl, hL⟩, hC⟩
  | true =>
    have HT := Hi (HT.out.mono (R' := fun e w' => e = .returned (.bool true) ∧ LedAt w' L (s.take n).1 ∧ Chg (· = L) w w') fun e w' hh => by rw [hb] at hh; exact hh)
    have HM := fun w0 => mkU8 w0 n (by omega)
    have HB := Hi hb
    clear hb
    go_enter Tryz.func79, Tryz.ntmps79
    go_wp2_with (first
      | ((with_reducible refine skip_g rfl ?_ ?_); rfl; intro _)
      | ((go_at_call 151; (with_reducible refine (HT.out).mono ?_); rintro e w1 ⟨rfl, hL, hC⟩); have H1 := Hi hL; have C1 := Hi hC; clear hL hC))
    go_ret2
    have hw := C1.out.size
    have hz : (zeros8 n).length = n := by simp [zeros8]
    have hO := obj1_new (w1.alloc (.cells (u8s (zeros8 n)).toArray 5)) (Bf.cells ⟨L, w1.heap.size, zeros8 n, true⟩).toArray 233
    have hD := (obj1_new w1 (u8s (zeros8 n)).toArray 5).alloc (.cells (Bf.cells ⟨L, w1.heap.size, zeros8 n, true⟩).toArray 233)
    have eC : (Bf.cells ⟨L, w1.heap.size, zeros8 n, true⟩).toArray = #[.pointer (some ⟨L, 0, none⟩), .slice (some ⟨w1.heap.size, 0, none⟩) n n, .int .u32 0, .int .i32 0, .int .u32 0] := by unfold Bf.cells; rw [hz]; rfl
    rw [eC] at hO hD
    rw [show (w1.alloc (.cells (u8s (zeros8 n)).toArray 5)).heap.size = w1.heap.size + 1 by simp] at hO
    have hll : L < w1.heap.size := H1.out.lt
    unfold MakePost
    rw [if_neg (Int.not_lt.2 HN.out), if_neg (by rw [HB.out]; decide)]
    refine ⟨⟨w1.heap.size + 1, w1.heap.size, rfl, ⟨(H1.out.obj.alloc _).alloc _, H1.out.ok⟩, ⟨by rw [show ((n : Int)).toNat = n from rfl, eC]; exact hO, fun _ => hD, ?_, by show w1.heap.size + 1 ≠ w1.heap.size; omega, by show w1.heap.size + 1 ≠ L; omega, by show w1.heap.size ≠ L; omega, by rw [show ((n : Int)).toNat = n from rfl]; show (zeros8 n).length ≤ _; omega⟩, by omega, by omega⟩, (C1.out.alloc _).alloc _⟩
    intro x hx
    have : x = 0 := by
      have := List.eq_of_mem_replicate (show x ∈ List.replicate n (0 : Int) from hx)
      exact this
    subst this; decide
theorem Obj1.setU {w : World} {g : Nat} {L : List Int} {T : TypeId} (h : Obj1 w g (u8s L).toArray T) (i : Nat) (x : Int) : Obj1 (w.setCell ⟨g, i, none⟩ (.int .u8 x)) g (u8s (L.set i x)).toArray T := by
  have h1 := h.set i (.int .u8 x)
  rw [show (u8s L).toArray.setIfInBounds i (.int .u8 x) = (u8s (L.set i x)).toArray by unfold u8s; rw [List.setIfInBounds_toArray, List.map_set]] at h1
  exact h1
theorem Bf.cells_len (b : Bf) (d : List Int) (h : d.length = b.d.length) : Bf.cells { b with d := d } = b.cells := by
  unfold Bf.cells; rw [h]
theorem BufAt.put {w w' : World} {B : Nat} {b : Bf} (h : BufAt w B b) (d : List Int) (hd : d.length = b.d.length) (hb : ∀ x ∈ d, 0 ≤ x ∧ x < 256) (hc : Chg (· = b.g) w w') (ho : Obj1 w' b.g (u8s d).toArray 5) : BufAt w' B { b with d := d } :=
  ⟨by rw [Bf.cells_len b d hd]; exact hc.obj h.obj h.ne, fun _ => ho, hb, h.ne, h.nl, h.gl, by rw [show ({ b with d := d } : Bf).d.length = b.d.length from hd]; exact h.sz⟩
def Bf.set (b : Bf) (i v : Int) : Bf := if b.there i 1 = true then { b with d := b.d.set i.toNat v } else b
set_option maxRecDepth 100000 in
set_option maxHeartbeats 4000000 in
theorem bset_any (B : Nat) (b : Bf) (i v : Int) (w : World) (h : BufAt w B b) (hi : i ≤ 4611686018427387904) (hv : 0 ≤ v ∧ v < 256) : Calls Tryz.prog 174 #[.pointer (some ⟨B, 0, none⟩), .int .i64 i, .int .u8 v] w fun e w' =>
      e = .returned (.bool (b.there i 1)) ∧ BufAt w' B (b.set i v) ∧ Chg (· = b.g) w w' := by
  have HT := Hi (bthere_any B b i 1 w h hi)
  have H := Hi h
  unfold Bf.set
  cases ht : b.there i 1 with
  | false =>
    rw [ht] at HT
    rw [if_neg (by decide)]
    clear h ht
    go_enter Tryz.func174, Tryz.ntmps174
    go_wp2_with (go_at_call 227; (with_reducible refine (HT.out).mono ?_); rintro e w1 ⟨rfl, rfl⟩)
    go_ret
    exact ⟨rfl, H.out, Chg.refl _ _⟩
  | true =>
    rw [ht] at HT
    rw [if_pos rfl]
    have hx : b.op = true ∧ 0 ≤ i ∧ i ≤ b.d.length ∧ 1 ≤ (b.d.length : Int) - i := by
      unfold Bf.there at ht
      simp only [Bool.and_eq_true, decide_eq_true_eq] at ht
      exact ⟨ht.1.1.1.1, ht.1.1.1.2, ht.1.2, ht.2⟩
    obtain ⟨ho, h0, h1, h2⟩ := hx
    obtain ⟨i, rfl⟩ := Int.eq_ofNat_of_zero_le h0
    have hil : i < b.d.length := by omega
    have c1 := h.c1 ho
    have hD := h.dat ho
    have cI : w.cell? ⟨b.g, i, none⟩ = some (.int .u8 (b.d[i])) := by rw [hD.cell]; simp [u8s, hil]
    have fI := hD.frozen i
    have FIN := Hi (show BufAt (w.setCell ⟨b.g, i, none⟩ (.int .u8 v)) B { b with d := b.d.set i v } from h.put _ (by rw [List.length_set]) (fun x hx => by
      rcases List.mem_or_eq_of_mem_set hx with hx | rfl
      · exact h.byt x hx
      · exact hv) ((Chg.refl _ w).set _ _ (Or.inl rfl)) (hD.setU i v))
    have CH := Hi ((Chg.refl (· = b.g) w).set ⟨b.g, i, none⟩ (.int .u8 v) (Or.inl rfl))
    obtain ⟨g, hg⟩ : ∃ g, b.g = g := ⟨_, rfl⟩
    obtain ⟨m, hm⟩ : ∃ m, b.d.length = m := ⟨_, rfl⟩
    rw [hg, hm] at c1
    rw [hg] at cI fI FIN CH ⊢
    rw [hm] at hil
    clear h ht ho h0 h1 h2 hD hg hm
    go_enter Tryz.func174, Tryz.ntmps174
    go_wp2_with (go_at_call 227; (with_reducible refine (HT.out).mono ?_); rintro e w1 ⟨rfl, rfl⟩)
    go_ret
    exact ⟨rfl, FIN.out, CH.out⟩
theorem copy_op {P : Program} {ops : Array Oper} {rest : List Oper} {o : Oper} {a : Act} {w w2 : World} {Q : Exit → Act → World → Prop} (hgd : o.guard = none) (d s : Operand) (dT sT : TypeId)
    (ho : o.op = .call { callee := .builtin .copy, args := #[d, s], argTypes := #[dT, sT] }) (x y v : Value) (hd : a.eval d = x) (hs : a.eval s = y) (hrun : ∀ ty, (Builtin.copy_ #[dT, sT] ty #[x, y]).run P w = .ok v w2)
    (h : wpList P ops Q rest (a.put o.dst v) w2) : wpList P ops Q (o :: rest) a w := by
  refine wpList_plain hgd fun K hK => ?_
  unfold Oper.wp
  simp [execOp, ho, resolve, invoke, builtin, hd, hs, hrun, Result.andThen]
  exact hK _ _ h
def bytesI (s : ByteArray) : List Int := s.data.toList.map fun b => (b.toNat : Int)
theorem bytesI_len (s : ByteArray) : (bytesI s).length = s.size := by unfold bytesI; rw [List.length_map]; rfl
theorem bytesI_byt (s : ByteArray) : ∀ x ∈ bytesI s, 0 ≤ x ∧ x < 256 := by
  intro x hx
  obtain ⟨b, _, rfl⟩ := List.mem_map.1 hx
  have := b.toNat_lt
  omega
theorem bytesI_cells (s : ByteArray) : Lib.byteCells s.data.toList = u8s (bytesI s) := by unfold Lib.byteCells u8s bytesI; rw [List.map_map]; rfl
def Bf.put (b : Bf) (i : Int) (s : ByteArray) : Bf := if b.there i s.size = true then { b with d := b.d.take i.toNat ++ (bytesI s ++ b.d.drop (i.toNat + s.size)) } else b
set_option maxRecDepth 100000 in
set_option maxHeartbeats 4000000 in
theorem fput_any (B : Nat) (b : Bf) (i : Int) (s : ByteArray) (w : World) (h : BufAt w B b) (hi : i ≤ 4611686018427387904) (hs : 0 < s.size) (hs2 : s.size ≤ 4611686018427387904) : Calls Tryz.prog 209 #[.pointer (some ⟨B, 0, none⟩), .int .i64 i, .string s] w fun e w' =>
      e = .returned (.bool (b.there i s.size)) ∧ BufAt w' B (b.put i s) ∧ Chg (· = b.g) w w' := by
  have HT := Hi (bthere_any B b i s.size w h hi)
  have H := Hi h
  unfold Bf.put
  cases ht : b.there i s.size with
  | false =>
    rw [ht] at HT
    rw [if_neg (by decide)]
    clear h ht
    go_enter Tryz.func209, Tryz.ntmps209
    go_wp2_with (go_at_call 227; (with_reducible refine (HT.out).mono ?_); rintro e w1 ⟨rfl, rfl⟩)
    go_ret
    exact ⟨rfl, H.out, Chg.refl _ _⟩
  | true =>
    rw [ht] at HT
    rw [if_pos rfl]
    have hx : b.op = true ∧ 0 ≤ i ∧ i ≤ b.d.length ∧ (s.size : Int) ≤ (b.d.length : Int) - i := by
      unfold Bf.there at ht
      simp only [Bool.and_eq_true, decide_eq_true_eq] at ht
      exact ⟨ht.1.1.1.1, ht.1.1.1.2, ht.1.2, ht.2⟩
    obtain ⟨ho, h0, h1, h2⟩ := hx
    obtain ⟨i, rfl⟩ := Int.eq_ofNat_of_zero_le h0
    have c1 := h.c1 ho
    have hD := h.dat ho
    rw [show ((i : Int)).toNat = i from rfl]
    have HCP := Hi (fun ty => Lib.run_copy_row_string (P := Tryz.prog) w 61 9 ty 5 b.g i (b.d.length - i) (b.d.length - i) s (u8s b.d).toArray 5 Tryz.underlying61 (by kernel_rfl) hD (by omega) (by simp [u8s]; omega))
    rw [bytesI_cells] at HCP
    have eN : (u8s b.d).take i ++ u8s (bytesI s) ++ (u8s b.d).drop (i + s.size) = u8s (b.d.take i ++ (bytesI s ++ b.d.drop (i + s.size))) := by unfold u8s; rw [List.map_append, List.map_append, List.map_take, List.map_drop, List.append_assoc]
    have hO := setRow_heap w b.g _ (u8s (b.d.take i ++ (bytesI s ++ b.d.drop (i + s.size)))).toArray 5 _ hD
    have hC : Chg (· = b.g) w (w.setRow b.g (u8s (b.d.take i ++ (bytesI s ++ b.d.drop (i + s.size)))).toArray) := ⟨rfl, rfl, rfl, by simp [World.setRow], fun k hk hn => setRow_other w b.g k _ hn⟩
    have hl : (b.d.take i ++ (bytesI s ++ b.d.drop (i + s.size))).length = b.d.length := by rw [List.length_append, List.length_append, List.length_take, List.length_drop, bytesI_len]; omega
    have FIN := Hi (h.put _ hl (fun x hx => by
      rcases List.mem_append.1 hx with hx | hx
      · exact h.byt x (List.mem_of_mem_take hx)
      · rcases List.mem_append.1 hx with hx | hx
        · exact bytesI_byt s x hx
        · exact h.byt x (List.mem_of_mem_drop hx)) hC hO)
    have CH := Hi hC
    have HCP := Hi (fun ty => (HCP.out ty).trans (by rw [show (u8s b.d).toArray.toList = u8s b.d by simp, eN]))
    obtain ⟨m, hm⟩ : ∃ m, b.d.length = m := ⟨_, rfl⟩
    obtain ⟨w2, hw2⟩ : ∃ w2, w.setRow b.g (u8s (b.d.take i ++ (bytesI s ++ b.d.drop (i + s.size)))).toArray = w2 := ⟨_, rfl⟩
    rw [hw2] at HCP FIN CH
    obtain ⟨g, hg⟩ : ∃ g, b.g = g := ⟨_, rfl⟩
    rw [hg, hm] at c1 HCP
    rw [hg] at CH FIN ⊢
    rw [hm] at h1 h2
    clear h ht ho h0 hD hC hO hl eN hw2 hg hm
    go_enter Tryz.func209, Tryz.ntmps209
    go_wp2_with (first
      | (go_at_call 227; (with_reducible refine (HT.out).mono ?_); rintro e w1 ⟨rfl, rfl⟩)
      | (refine copy_op rfl (.tmp 18) (.tmp 19) 61 9 rfl (.slice (some ⟨g, i, none⟩) (m - i) (m - i)) (.string s) _ rfl rfl HCP.out ?_))
    go_ret
    exact ⟨rfl, FIN.out, CH.out⟩
def Bf.get (b : Bf) (i n : Int) : ByteArray := if b.there i n = true then strOf ((b.d.drop i.toNat).take n.toNat) else ByteArray.empty
theorem part_string {P : Program} {w : World} {g : Nat} {d : List Int} {T : TypeId} (h : Obj1 w g (u8s d).toArray T) (i n c : Nat) (hn : i + n ≤ d.length) (src dst e' : TypeId)
    (hs : P.underlying src = some (.slice e')) (he : P.underlying e' = some (.int .u8)) (hd : P.underlying dst = some .string) : (convert src dst (.slice (some ⟨g, i, none⟩) n c)).run P w = .ok (.string (strOf ((d.drop i).take n))) w := by
  rw [run_convert_bytes_string w src dst e' _ n c hs he hd]
  have hl : ((d.drop i).take n).length = n := by rw [List.length_take, List.length_drop]; omega
  refine run_bytesToString w _ n c ((d.drop i).take n) ?_
  have := run_loadCells_list (P := P) w ⟨g, i, none⟩ (((d.drop i).take n).map (Value.int .u8)) (fun j v hv => by
    rw [Addr.add_mid, h.cell]
    rw [List.getElem?_map] at hv
    have hj : j < n := by
      rcases Nat.lt_or_ge j n with hj | hj
      · exact hj
      · rw [List.getElem?_eq_none (by omega)] at hv; cases hv
    rw [List.getElem?_take, if_pos hj, List.getElem?_drop] at hv
    simp only [u8s, List.getElem?_toArray, List.getElem?_map]
    exact hv)
  rw [List.length_map, hl] at this; exact this
set_option maxRecDepth 100000 in
set_option maxHeartbeats 4000000 in
theorem bget_any (B : Nat) (b : Bf) (i n : Int) (w : World) (h : BufAt w B b) (hi : i ≤ 4611686018427387904) (hnp : 0 < n) : Calls Tryz.prog 252 #[.pointer (some ⟨B, 0, none⟩), .int .i64 i, .int .i64 n] w fun e w' =>
      e = .returned (.tuple #[.string (b.get i n), .bool (b.there i n)]) ∧ w' = w := by
  have HT := Hi (bthere_any B b i n w h hi)
  unfold Bf.get
  cases ht : b.there i n with
  | false =>
    rw [ht] at HT
    rw [if_neg (by decide)]
    clear h ht
    go_enter Tryz.func252, Tryz.ntmps252
    go_wp2_with (go_at_call 227; (with_reducible refine (HT.out).mono ?_); rintro e w1 ⟨rfl, rfl⟩)
    go_ret2
    exact ⟨rfl, rfl⟩
  | true =>
    rw [ht] at HT
    rw [if_pos rfl]
    have hsz := h.sz
    have hx : b.op = true ∧ 0 ≤ i ∧ 0 ≤ n ∧ i ≤ b.d.length ∧ n ≤ (b.d.length : Int) - i := by
      unfold Bf.there at ht
      simp only [Bool.and_eq_true, decide_eq_true_eq] at ht
      exact ⟨ht.1.1.1.1, ht.1.1.1.2, ht.1.1.2, ht.1.2, ht.2⟩
    obtain ⟨ho, h0, hn0, h1, h2⟩ := hx
    obtain ⟨i, rfl⟩ := Int.eq_ofNat_of_zero_le h0
    obtain ⟨n, rfl⟩ := Int.eq_ofNat_of_zero_le hn0
    have c1 := h.c1 ho
    have hin : i + n ≤ b.d.length := by omega
    have hnp2 : 0 < n := by omega
    have him : i < b.d.length := by omega
    obtain ⟨R, hR⟩ : ∃ R, strOf ((b.d.drop i).take n) = R := ⟨_, rfl⟩
    have HR := fun c => part_string (P := Tryz.prog) (h.dat ho) i n c hin 61 9 5 Tryz.underlying61 Tryz.underlying5 Tryz.underlying9
    rw [hR] at HR
    rw [show ((i : Int)).toNat = i from rfl, show ((n : Int)).toNat = n from rfl, hR]
    obtain ⟨m, hm⟩ : ∃ m, b.d.length = m := ⟨_, rfl⟩
    obtain ⟨g, hg⟩ : ∃ g, b.g = g := ⟨_, rfl⟩
    rw [hg, hm] at c1
    rw [hg] at HR
    rw [hm] at h1 h2 hin hsz him
    have hci : m - i ≠ 0 := by omega
    clear h ht ho h0 hn0 hR hg hm
    go_enter Tryz.func252, Tryz.ntmps252
    go_wp2_with (go_at_call 227; (with_reducible refine (HT.out).mono ?_); rintro e w1 ⟨rfl, rfl⟩)
    go_ret2
    exact ⟨rfl, rfl⟩
end Go.Proofs.YtlfbaggcfaenlaaGreat
namespace Go
section
variable {P : Program} {ops : Array Oper} {Q : Exit → Act → World → Prop} {md : Region.Mode} {S : World → Prop} {late : Nat → Bool}
def lateOk (md : Region.Mode) (ops : Array Oper) (late : Nat → Bool) : Bool :=
  (List.range ops.size).all fun j => !late j || (List.range ops.size).all fun i => late i || match ops[j]? with
    | none => true
    | some o => o.after.any fun e => Region.binds md e && e.on == i
def wpAnyT (P : Program) (md : Region.Mode) (ops : Array Oper) (Q : Exit → Act → World → Prop) (S : World → Prop) (late : Nat → Bool) : Nat → Array Bool → Act → World → Prop
  | 0, listed, a, w => Region.ready md ops listed = [] ∧ Q .normal a w
  | fuel + 1, listed, a, w =>
    (Region.ready md ops listed = [] → Q .normal a w) ∧
    ∀ i ∈ Region.ready md ops listed, wpOp P ops Q i (fun a' w' => (late i = false → S w') ∧ wpAnyT P md ops Q S late fuel (listed.setIfInBounds i true) a' w') a w
theorem wpAny_of_T : ∀ (fuel : Nat) (listed : Array Bool) (a : Act) (w : World), wpAnyT P md ops Q S late fuel listed a w → wpAny P md ops Q fuel listed a w
  | 0, _, _, _, h => h
  | fuel + 1, _, _, _, h => ⟨h.1, fun i hi => wpOp_mono (fun a' w' h' => wpAny_of_T fuel _ a' w' h'.2) (h.2 i hi)⟩
theorem wpAnyT_first {i : Nat} {oi : Oper} {v : Value} (hi : ops[i]? = some oi) (hsel : ∀ (j : Nat) (o : Oper) cs b, ops[j]? = some o → o.op ≠ .select cs b)
    (hQ : ∀ c a w, Q (.panic c) (a.put oi.dst v) w → Q (.panic c) a w) (hlt : lateOk md ops late = true) (hli : late i = false) :
    ∀ (fuel : Nat) (listed : Array Bool) (a : Act) (w : World),
      (∀ j oj, ops[j]? = some oj → j ≠ i → listed.getD j true = false → (∀ e ∈ oj.after, Region.binds md e = true → e.on ≠ i) → oi.apart ops oj = true) →
      i ∈ Region.ready md ops listed → YieldsIf P ops S oi v a → S w →
      wpAnyT P md ops Q S late fuel (listed.setIfInBounds i true) (a.put oi.dst v) w → wpAnyT P md ops Q S late (fuel + 1) listed a w := by
  intro fuel
  induction fuel with
  | zero =>
    intro listed a w _ hr hy hS H
    refine ⟨fun h => (by rw [h] at hr; cases hr), fun j hj => ?_⟩
    by_cases hji : j = i
    · subst hji; exact hy.wpOp hi hS ⟨fun _ => hS, H⟩
    · have := ready_mono hj hji
      rw [H.1] at this
      cases this
  | succ fuel ih =>
    intro listed a w hfree hr hy hS H
    refine ⟨fun h => (by rw [h] at hr; cases hr), fun j hj => ?_⟩
    by_cases hji : j = i
    · subst hji; exact hy.wpOp hi hS ⟨fun _ => hS, H⟩
    · have h1 := H.2 j (ready_mono hj hji)
      obtain ⟨hjun, oj, hoj, hall⟩ := mem_ready.1 hj
      have hnot : ∀ e ∈ oj.after, Region.binds md e = true → e.on ≠ i := fun e he hb heq => by
        have h1 := hall e he hb
        have h0 := (mem_ready.1 hr).1
        rw [heq] at h1
        rcases Nat.lt_or_ge i listed.size with h' | h'
        · simp [h'] at h0 h1; rw [h0] at h1; cases h1
        · simp [Array.getElem?_eq_none h'] at h1
      have hjl : late j = false := by
        cases hl : late j with
        | false => rfl
        | true =>
          have hjs : j < ops.size := (Array.getElem?_eq_some_iff.1 hoj).1
          have his : i < ops.size := (Array.getElem?_eq_some_iff.1 hi).1
          unfold lateOk at hlt
          have h2 := List.all_eq_true.1 hlt j (List.mem_range.2 hjs)
          rw [hl, Bool.not_true, Bool.false_or] at h2
          have h3 := List.all_eq_true.1 h2 i (List.mem_range.2 his)
          rw [hli, Bool.false_or, hoj] at h3
          obtain ⟨e, he, h4⟩ := Array.any_eq_true'.1 h3
          rw [Bool.and_eq_true, beq_iff_eq] at h4
          exact absurd h4.2 (hnot e he h4.1)
      have h2 := wpOp_putIf hoj (hfree j oj hoj hji hjun hnot) (fun cs b => hsel i oi cs b hi) (fun cs b => hsel j oj cs b hoj) hQ hy h1
      have hfree' : ∀ k ok, ops[k]? = some ok → k ≠ i → (listed.setIfInBounds j true).getD k true = false →
          (∀ e ∈ ok.after, Region.binds md e = true → e.on ≠ i) → oi.apart ops ok = true := fun k ok hk hki hun hno => by
        refine hfree k ok hk hki ?_ hno
        by_cases hjk : j = k
        · subst hjk; exact hjun
        · rw [getD_set_ne true hjk] at hun; exact hun
      refine wpOp_mono (fun a' w' h3 => ⟨h3.2.1, ih (listed.setIfInBounds j true) a' w' hfree' (ready_mono hr (Ne.symm hji)) h3.1 (h3.2.1 hjl) ?_⟩) h2
      rw [Array.setIfInBounds_comm _ _ hji]
      exact h3.2.2
theorem wpAnyT_take {i : Nat} {oi : Oper} {v : Value} {fuel : Nat} {listed : Array Bool} {a : Act} {w : World} (hi : ops[i]? = some oi)
    (hs : Region.noSelect ops = true) (hf : Region.free md ops listed i = true) (hr : (Region.ready md ops listed).contains i = true) (hlt : lateOk md ops late = true) (hli : late i = false)
    (hQ : ∀ c a w, Q (.panic c) (a.put oi.dst v) w → Q (.panic c) a w) (hy : YieldsIf P ops S oi v a) (hS : S w)
    (h : wpAnyT P md ops Q S late fuel (listed.setIfInBounds i true) (a.put oi.dst v) w) : wpAnyT P md ops Q S late (fuel + 1) listed a w :=
  wpAnyT_first hi (Region.noSelect_spec hs) hQ hlt hli fuel listed a w (Region.free_spec hi hf) (by simpa using hr) hy hS h
theorem wpAnyT_one {i : Nat} {o : Oper} {fuel : Nat} {listed : Array Bool} {a : Act} {w : World} (hr : Region.ready md ops listed = [i]) (ho : ops[i]? = some o) (hl : late i = true)
    (h : ∀ K' : Act → World → Prop, Shut (∀ a w, wpAnyT P md ops Q S late fuel (listed.setIfInBounds i true) a w → K' a w) → if Region.wanted o (yielded ops a.tmps) = true then Oper.wp P o a w K' Q else K' (a.put o.dst undef) w) : wpAnyT P md ops Q S late (fuel + 1) listed a w := by
  refine ⟨fun h0 => (by rw [hr] at h0; cases h0), fun j hj => ?_⟩
  rw [hr, List.mem_singleton] at hj
  subst hj
  exact wpOp_step ho (fun K' hK => h K' (fun a w hW => hK a w ⟨fun h => (by rw [hl] at h; cases h), hW⟩))
theorem wpAnyT_mid {i : Nat} {o : Oper} {fuel : Nat} {listed : Array Bool} {a : Act} {w : World} (hr : Region.ready md ops listed = [i]) (ho : ops[i]? = some o)
    (h : ∀ K' : Act → World → Prop, Shut (∀ a w, S w → wpAnyT P md ops Q S late fuel (listed.setIfInBounds i true) a w → K' a w) → if Region.wanted o (yielded ops a.tmps) = true then Oper.wp P o a w K' Q else K' (a.put o.dst undef) w) : wpAnyT P md ops Q S late (fuel + 1) listed a w := by
  refine ⟨fun h0 => (by rw [hr] at h0; cases h0), fun j hj => ?_⟩
  rw [hr, List.mem_singleton] at hj
  subst hj
  exact wpOp_step ho (fun K' hK => h K' (fun a w hs hW => hK a w ⟨fun _ => hs, hW⟩))
theorem wpAnyT_done {listed : Array Bool} {a : Act} {w : World} (hr : Region.ready md ops listed = []) (h : Q .normal a w) : ∀ fuel, wpAnyT P md ops Q S late fuel listed a w
  | 0 => ⟨hr, h⟩
  | _ + 1 => ⟨fun _ => h, by rw [hr]; simp⟩
theorem wp_region_T (S : World → Prop) (late : Nat → Bool) {id : Nat} {a : Act} {w : World} (hm : P.follows .mixedOrders = true)
    (h : wpAnyT P .any ops Q S late ops.size (Array.replicate ops.size false) a w.drew) : (Code.region id ops true).wp P Q a w :=
  wp_region_any hm (wpAny_of_T _ _ _ _ h)
end
end Go

/- A buffer lets its bytes go: leave, Free, Out; walked. -/
import Derived.Test.YtlfbaggcfaenlaaGreatK3
import Derived.Test.YtlfbaggcfaenlaaGreatK0
namespace Go.Proofs.YtlfbaggcfaenlaaGreat
open Go.RowKit
set_option linter.unusedVariables false
set_option linter.unusedSimpArgs false
theorem results_2c {P : Program} {fn : Func} {p q : Tmp} {ty ty2 : TypeId} (h : fn.results = #[.cell p ty, .cell q ty2]) (tmps : Array Value) (w : World) (b b2 : Nat) (v v2 : Value)
    (hp : tmps.getD p undef = .pointer (some ⟨b, 0, none⟩)) (hl : (loadVar ty ⟨b, 0, none⟩).run P w = .ok v w) (hq : tmps.getD q undef = .pointer (some ⟨b2, 0, none⟩)) (hl2 : (loadVar ty2 ⟨b2, 0, none⟩).run P w = .ok v2 w) : (results fn tmps).run P w = .ok (.tuple #[v, v2]) w := by
  have hp' : tmps[p]?.getD undef = .pointer (some ⟨b, 0, none⟩) := by simpa using hp
  have hq' : tmps[q]?.getD undef = .pointer (some ⟨b2, 0, none⟩) := by simpa using hq
  simp [results, h, hp', hq', asAddr, hl, hl2]
set_option maxRecDepth 100000 in
set_option maxHeartbeats 4000000 in
theorem leave1 (B d g m : Nat) (x1 x2 : Value) (w : World) (hB : B < d) (c0 : w.cell? ⟨d, 0, none⟩ = some (.pointer (some ⟨B, 0, none⟩))) (c1 : w.cell? ⟨d + 1, 0, none⟩ = some x1) (c2 : w.cell? ⟨d + 2, 0, none⟩ = some x2) (cB : w.cell? ⟨B, 1, none⟩ = some (.slice (some ⟨g, 0, none⟩) m m))
    (f1 : w.frozen? ⟨d + 1, 0, none⟩ = false) (f2 : w.frozen? ⟨d + 2, 0, none⟩ = false) (fB : w.frozen? ⟨B, 1, none⟩ = false) :
    Calls Tryz.prog 222 #[.pointer (some ⟨d, 0, none⟩), .pointer (some ⟨d + 1, 0, none⟩), .pointer (some ⟨d + 2, 0, none⟩)] w fun e w' =>
      e = .returned (.tuple #[]) ∧ (((w.drew.setCell ⟨d + 1, 0, none⟩ (.slice (some ⟨g, 0, none⟩) m m)).setCell ⟨d + 2, 0, none⟩ (.bool true)).setCell ⟨B, 1, none⟩ (.slice none 0 0)) = w' := by
  go_enter Tryz.func222, Tryz.ntmps222
  go_upto_region 0 with (fail)
  refine wp_region_noPanic ?_
  refine wp_region_T (fun w' => w'.cell? ⟨d, 0, none⟩ = some (.pointer (some ⟨B, 0, none⟩)) ∧ w'.cell? ⟨B, 1, none⟩ = some (.slice (some ⟨g, 0, none⟩) m m)) (fun i => decide (7 ≤ i)) (by kernel_rfl) ?_
  have hS0 : (World.drew w).cell? ⟨d, 0, none⟩ = some (.pointer (some ⟨B, 0, none⟩)) ∧ (World.drew w).cell? ⟨B, 1, none⟩ = some (.slice (some ⟨g, 0, none⟩) m m) := ⟨c0, cB⟩
  refine wpAnyT_take (i := 0) (v := .pointer (some ⟨B, 0, none⟩)) rfl (by kernel_rfl) (by kernel_rfl) (by kernel_rfl) (by kernel_rfl) rfl (fun _ _ _ h => h) (Or.inl ⟨by rfl, fun w hS => by (have hc := hS.1; go_simp)⟩) hS0 ?_
  simp only [Act.put, zq1, zq2, zq3, zq4, zq5, zq6]
  refine wpAnyT_take (i := 1) (v := .pointer (some ⟨B, 0, none⟩)) rfl (by kernel_rfl) (by kernel_rfl) (by kernel_rfl) (by kernel_rfl) rfl (fun _ _ _ h => h) (Or.inl ⟨by rfl, fun w hS => by (have hc := hS.1; go_simp)⟩) hS0 ?_
  simp only [Act.put, zq1, zq2, zq3, zq4, zq5, zq6]
  refine wpAnyT_take (i := 2) (v := .pointer (some ⟨B, 0, none⟩)) rfl (by kernel_rfl) (by kernel_rfl) (by kernel_rfl) (by kernel_rfl) rfl (fun _ _ _ h => h) (Or.inl ⟨by rfl, fun w hS => by (go_simp)⟩) hS0 ?_
  simp only [Act.put, zq1, zq2, zq3, zq4, zq5, zq6]
  refine wpAnyT_take (i := 3) (v := .pointer (some ⟨B, 1, none⟩)) rfl (by kernel_rfl) (by kernel_rfl) (by kernel_rfl) (by kernel_rfl) rfl (fun _ _ _ h => h) (Or.inl ⟨by rfl, fun w hS => by (go_simp)⟩) hS0 ?_
  simp only [Act.put, zq1, zq2, zq3, zq4, zq5, zq6]
  refine wpAnyT_take (i := 4) (v := .slice (some ⟨g, 0, none⟩) m m) rfl (by kernel_rfl) (by kernel_rfl) (by kernel_rfl) (by kernel_rfl) rfl (fun _ _ _ h => h) (Or.inl ⟨by rfl, fun w hS => by (have hc := hS.2; go_simp)⟩) hS0 ?_
  simp only [Act.put, zq1, zq2, zq3, zq4, zq5, zq6]
  have k1 : (World.drew w).cell? ⟨d + 1, 0, none⟩ = some x1 := c1
  have k2 : (World.drew w).cell? ⟨d + 2, 0, none⟩ = some x2 := c2
  have g1 : (World.drew w).frozen? ⟨d + 1, 0, none⟩ = false := f1
  have g2 : (World.drew w).frozen? ⟨d + 2, 0, none⟩ = false := f2
  have gB : (World.drew w).frozen? ⟨B, 1, none⟩ = false := fB
  obtain ⟨wk, hwk⟩ : ∃ z, World.drew w = z := ⟨_, rfl⟩
  rw [hwk] at hS0 k1 k2 g1 g2 gB ⊢
  refine wpAnyT_mid (i := 5) (by kernel_rfl) rfl ?_
  intro K' hK
  go_simp
  have hS1 : (wk.setCell ⟨d + 1, 0, none⟩ (.slice (some ⟨g, 0, none⟩) m m)).cell? ⟨d, 0, none⟩ = some (.pointer (some ⟨B, 0, none⟩)) ∧ (wk.setCell ⟨d + 1, 0, none⟩ (.slice (some ⟨g, 0, none⟩) m m)).cell? ⟨B, 1, none⟩ = some (.slice (some ⟨g, 0, none⟩) m m) := ⟨(World.cell?_setCell_other _ _ _ _ (by simp)).trans hS0.1, (World.cell?_setCell_other _ _ _ _ (by simp <;> omega)).trans hS0.2⟩
  have k2 := (show (wk.setCell ⟨d + 1, 0, none⟩ (.slice (some ⟨g, 0, none⟩) m m)).cell? ⟨d + 2, 0, none⟩ = some x2 from (World.cell?_setCell_other _ _ _ _ (by simp)).trans k2)
  have g2' : (wk.setCell ⟨d + 1, 0, none⟩ (.slice (some ⟨g, 0, none⟩) m m)).frozen? ⟨d + 2, 0, none⟩ = false := by simpa using g2
  refine hK _ _ hS1 ?_
  clear hK K'
  try simp only [Act.put, zq1, zq2, zq3, zq4, zq5, zq6]
  refine wpAnyT_mid (i := 6) (by kernel_rfl) rfl ?_
  intro K' hK
  go_simp
  have hS2 : ((wk.setCell ⟨d + 1, 0, none⟩ (.slice (some ⟨g, 0, none⟩) m m)).setCell ⟨d + 2, 0, none⟩ (.bool true)).cell? ⟨d, 0, none⟩ = some (.pointer (some ⟨B, 0, none⟩)) ∧ ((wk.setCell ⟨d + 1, 0, none⟩ (.slice (some ⟨g, 0, none⟩) m m)).setCell ⟨d + 2, 0, none⟩ (.bool true)).cell? ⟨B, 1, none⟩ = some (.slice (some ⟨g, 0, none⟩) m m) := ⟨(World.cell?_setCell_other _ _ _ _ (by simp)).trans hS1.1, (World.cell?_setCell_other _ _ _ _ (by simp <;> omega)).trans hS1.2⟩
  have gB2 : ((wk.setCell ⟨d + 1, 0, none⟩ (.slice (some ⟨g, 0, none⟩) m m)).setCell ⟨d + 2, 0, none⟩ (.bool true)).frozen? ⟨B, 1, none⟩ = false := by simpa using gB
  refine hK _ _ hS2 ?_
  clear hK K'
  try simp only [Act.put, zq1, zq2, zq3, zq4, zq5, zq6]
  refine wpAnyT_one (i := 7) (by kernel_rfl) rfl rfl ?_
  intro K' hK
  go_simp
  refine hK _ _ ?_
  clear hK K'
  try simp only [Act.put, zq1, zq2, zq3, zq4, zq5, zq6]
  refine wpAnyT_one (i := 8) (by kernel_rfl) rfl rfl ?_
  intro K' hK
  go_simp
  refine hK _ _ ?_
  clear hK K'
  try simp only [Act.put, zq1, zq2, zq3, zq4, zq5, zq6]
  refine wpAnyT_one (i := 9) (by kernel_rfl) rfl rfl ?_
  intro K' hK
  have hcB := hS2.2
  go_simp
  refine hK _ _ ?_
  clear hK K'
  try simp only [Act.put, zq1, zq2, zq3, zq4, zq5, zq6]
  refine wpAnyT_done (by kernel_rfl) ?_ _
  refine NoPanic.normal ?_
  rw [← hwk]
  go_end0
  exact ⟨rfl, rfl⟩
def Left (B d g m : Nat) (w : World) : World := ((((((w.setCell ⟨B, 3, none⟩ (.int .i32 1)).drew.setCell ⟨d + 1, 0, none⟩ (.slice (some ⟨g, 0, none⟩) m m)).setCell ⟨d + 2, 0, none⟩ (.bool true)).setCell ⟨B, 1, none⟩ (.slice none 0 0)).drew.setCell ⟨B, 2, none⟩ (.int .u32 1)).setCell ⟨B, 3, none⟩ (.int .i32 0))
set_option maxRecDepth 100000 in
set_option maxHeartbeats 4000000 in
theorem bslow_once (B d g m : Nat) (x1 x2 b0 b4 : Value) (T : TypeId) (w : World) (hB : B < d)
    (h : Obj1 w B #[b0, .slice (some ⟨g, 0, none⟩) m m, .int .u32 0, .int .i32 0, b4] T)
    (c0 : w.cell? ⟨d, 0, none⟩ = some (.pointer (some ⟨B, 0, none⟩))) (c1 : w.cell? ⟨d + 1, 0, none⟩ = some x1) (c2 : w.cell? ⟨d + 2, 0, none⟩ = some x2) (f1 : w.frozen? ⟨d + 1, 0, none⟩ = false) (f2 : w.frozen? ⟨d + 2, 0, none⟩ = false) :
    Calls Tryz.prog 248 #[.pointer (some ⟨B, 2, none⟩), .func (.func 222) #[] #[.pointer (some ⟨d, 0, none⟩), .pointer (some ⟨d + 1, 0, none⟩), .pointer (some ⟨d + 2, 0, none⟩)]] w fun e w' =>
      e = .returned (.tuple #[]) ∧ Left B d g m w = w' := by
  have h1 := h.set 3 (.int .i32 1)
  have h2 := ((h1.drew.set_other ⟨d + 1, 0, none⟩ (.slice (some ⟨g, 0, none⟩) m m) (by simp; omega)).set_other ⟨d + 2, 0, none⟩ (.bool true) (by simp; omega)).set 1 (.slice none 0 0)
  have h3 := h2.drew.set 2 (.int .u32 1)
  have H := Hi h
  have H1 := Hi h1
  have H2 := Hi h2
  have H3 := Hi h3
  have hnot : ∀ (x : Bool) (w : World), (Op.unary .not (.bool x)).run Tryz.prog w = .ok (.bool (!x)) w := fun _ _ => rfl
  have HL := Hi (lock_free B 3 w ((h.cell 3).trans rfl) (h.frozen 3))
  have HB := Hi (bload_f B 2 _ ((h1.cell 2).trans rfl))
  have HC := Hi (leave1 B d g m x1 x2 (w.setCell ⟨B, 3, none⟩ (.int .i32 1)) hB ((World.cell?_setCell_other _ _ _ _ (by simp <;> omega)).trans c0) ((World.cell?_setCell_other _ _ _ _ (by simp <;> omega)).trans c1) ((World.cell?_setCell_other _ _ _ _ (by simp <;> omega)).trans c2) ((h1.cell 1).trans rfl) (by simpa using f1) (by simpa using f2) (h1.frozen 1))
  clear h h1 h2 h3 c0 c1 c2 f1 f2
  go_enter_defers Tryz.func248, Tryz.ntmps248
  go_wp2_with (first
    | (go_at_call 261; (with_reducible refine (HL.out).mono ?_); rintro e w1 ⟨rfl, rfl⟩)
    | (go_at_call 119; (with_reducible refine (HB.out).mono ?_); rintro e w1 ⟨rfl, rfl⟩)
    | (go_at_call 222; (with_reducible refine (HC.out).mono ?_); rintro e w1 ⟨rfl, rfl⟩))
  refine leaves_cons (f := 213) (args := #[.pointer (some ⟨B, 2, none⟩), .bool true]) (by simp) (by simp [go_sem]) ?_
  refine (store_deferred B 2 (.int .u32 0) .returning _ ((H2.out.cell 2).trans rfl) (H2.out.frozen 2)).mono ?_
  rintro e u' w'' ⟨rfl, rfl, rfl⟩
  refine leaves_cons (f := 262) (args := #[.pointer (some ⟨B, 3, none⟩)]) (by simp [settle]) (by simp [go_sem]) ?_
  refine (unlock_deferred B 3 _ _ ((H3.out.cell 3).trans rfl) (H3.out.frozen 3)).mono ?_
  rintro e u' w'' ⟨rfl, rfl, rfl⟩
  simp [Leaves, settle, results, Tryz.results248]
  rfl
theorem left_obj {B d g m : Nat} {b0 b4 : Value} {T : TypeId} {w : World} (hB : B < d) (h : Obj1 w B #[b0, .slice (some ⟨g, 0, none⟩) m m, .int .u32 0, .int .i32 0, b4] T) :
    Obj1 (Left B d g m w) B #[b0, .slice none 0 0, .int .u32 1, .int .i32 0, b4] T := by
  have := ((((((h.set 3 (.int .i32 1)).drew.set_other ⟨d + 1, 0, none⟩ (.slice (some ⟨g, 0, none⟩) m m) (by simp; omega)).set_other ⟨d + 2, 0, none⟩ (.bool true) (by simp; omega)).set 1 (.slice none 0 0)).drew.set 2 (.int .u32 1)).set 3 (.int .i32 0))
  simp only [List.setIfInBounds_toArray, List.set_cons_succ, List.set_cons_zero] at this
  exact this
theorem left_chg (B d g m : Nat) (w : World) : Chg (fun k => k = B ∨ k = d + 1 ∨ k = d + 2) w (Left B d g m w) := by
  unfold Left
  refine Chg.set ?_ ⟨B, 3, none⟩ _ (Or.inl (Or.inl rfl))
  refine Chg.set (Chg.drew ?_) ⟨B, 2, none⟩ _ (Or.inl (Or.inl rfl))
  refine Chg.set ?_ ⟨B, 1, none⟩ _ (Or.inl (Or.inl rfl))
  refine Chg.set ?_ ⟨d + 2, 0, none⟩ _ (Or.inl (Or.inr (Or.inr rfl)))
  refine Chg.set (Chg.drew ?_) ⟨d + 1, 0, none⟩ _ (Or.inl (Or.inr (Or.inl rfl)))
  refine Chg.set ?_ ⟨B, 3, none⟩ _ (Or.inl (Or.inl rfl))
  exact Chg.refl _ w
theorem left_vars {B d g m : Nat} {x1 x2 : Value} {T1 T2 : TypeId} {w : World} (hB : B < d) (h1 : Obj1 w (d + 1) #[x1] T1) (h2 : Obj1 w (d + 2) #[x2] T2) :
    Obj1 (Left B d g m w) (d + 1) #[.slice (some ⟨g, 0, none⟩) m m] T1 ∧ Obj1 (Left B d g m w) (d + 2) #[.bool true] T2 := by
  constructor
  · exact ((((((h1.set_other ⟨B, 3, none⟩ (.int .i32 1) (by simp; omega)).drew.set 0 (.slice (some ⟨g, 0, none⟩) m m)).set_other ⟨d + 2, 0, none⟩ (.bool true) (by simp)).set_other ⟨B, 1, none⟩ (.slice none 0 0) (by simp; omega)).drew.set_other ⟨B, 2, none⟩ (.int .u32 1) (by simp; omega)).set_other ⟨B, 3, none⟩ (.int .i32 0) (by simp; omega))
  · exact ((((((h2.set_other ⟨B, 3, none⟩ (.int .i32 1) (by simp; omega)).drew.set_other ⟨d + 1, 0, none⟩ (.slice (some ⟨g, 0, none⟩) m m) (by simp)).set 0 (.bool true)).set_other ⟨B, 1, none⟩ (.slice none 0 0) (by simp; omega)).drew.set_other ⟨B, 2, none⟩ (.int .u32 1) (by simp; omega)).set_other ⟨B, 3, none⟩ (.int .i32 0) (by simp; omega))
set_option maxHeartbeats 4000000 in
theorem bdo_once (B d g m : Nat) (x1 x2 b0 b4 : Value) (T : TypeId) (w : World) (hB : B < d)
    (h : Obj1 w B #[b0, .slice (some ⟨g, 0, none⟩) m m, .int .u32 0, .int .i32 0, b4] T)
    (c0 : w.cell? ⟨d, 0, none⟩ = some (.pointer (some ⟨B, 0, none⟩))) (c1 : w.cell? ⟨d + 1, 0, none⟩ = some x1) (c2 : w.cell? ⟨d + 2, 0, none⟩ = some x2) (f1 : w.frozen? ⟨d + 1, 0, none⟩ = false) (f2 : w.frozen? ⟨d + 2, 0, none⟩ = false) :
    Calls Tryz.prog 211 #[.pointer (some ⟨B, 2, none⟩), .func (.func 222) #[] #[.pointer (some ⟨d, 0, none⟩), .pointer (some ⟨d + 1, 0, none⟩), .pointer (some ⟨d + 2, 0, none⟩)]] w fun e w' =>
      e = .returned (.tuple #[]) ∧ Left B d g m w = w' := by
  have hnot : ∀ (x : Bool) (w : World), (Op.unary .not (.bool x)).run Tryz.prog w = .ok (.bool (!x)) w := fun _ _ => rfl
  have HB := Hi (bload_f B 2 w ((h.cell 2).trans rfl))
  have HS := Hi (bslow_once B d g m x1 x2 b0 b4 T w hB h c0 c1 c2 f1 f2)
  clear h c0 c1 c2 f1 f2
  go_enter Tryz.func211, Tryz.ntmps211
  go_wp2_with (first
    | (go_at_call 119; (with_reducible refine (HB.out).mono ?_); rintro e w1 ⟨rfl, rfl⟩)
    | (go_at_call 248; (with_reducible refine (HS.out).mono ?_); rintro e w1 ⟨rfl, rfl⟩))
  go_end0
  exact ⟨rfl, rfl⟩
set_option maxHeartbeats 4000000 in
theorem bdo_done (B : Nat) (F : Value) (w : World) (hc : w.cell? ⟨B, 2, none⟩ = some (.int .u32 1)) :
    Calls Tryz.prog 211 #[.pointer (some ⟨B, 2, none⟩), F] w fun e w' => e = .returned (.tuple #[]) ∧ w = w' := by
  have hnot : ∀ (x : Bool) (w : World), (Op.unary .not (.bool x)).run Tryz.prog w = .ok (.bool (!x)) w := fun _ _ => rfl
  have HB := Hi (bload_t B 2 w hc)
  clear hc
  go_enter Tryz.func211, Tryz.ntmps211
  go_wp2_with (first
    | (go_at_call 119; (with_reducible refine (HB.out).mono ?_); rintro e w1 ⟨rfl, rfl⟩))
  go_end0
  exact ⟨rfl, rfl⟩
def Bf.shut (b : Bf) : Bf := { b with op := false }
def Bf.out (b : Bf) : Value := if b.op = true then .slice (some ⟨b.g, 0, none⟩) b.d.length b.d.length else .slice none 0 0
set_option maxRecDepth 100000 in
set_option maxHeartbeats 4000000 in
theorem bleave_any (B : Nat) (b : Bf) (w : World) (h : BufAt w B b) : Calls Tryz.prog 164 #[.pointer (some ⟨B, 0, none⟩)] w fun e w' =>
      e = .returned (.tuple #[b.out, .bool b.op]) ∧ BufAt w' B b.shut ∧ Chg (· = B) w w' := by
  have hlt := h.lt
  have H := Hi h
  obtain ⟨d, hd⟩ : ∃ d, w.heap.size = d := ⟨_, rfl⟩
  have O0 := ((obj1_new w #[.pointer (some ⟨B, 0, none⟩)] 151).alloc (.cells #[.slice none 0 0] 61)).alloc (.cells #[.bool false] 4)
  have O1 := (obj1_new (w.alloc (.cells #[.pointer (some ⟨B, 0, none⟩)] 151)) #[.slice none 0 0] 61).alloc (.cells #[.bool false] 4)
  have O2 := obj1_new ((w.alloc (.cells #[.pointer (some ⟨B, 0, none⟩)] 151)).alloc (.cells #[.slice none 0 0] 61)) #[.bool false] 4
  rw [show (w.alloc (.cells #[.pointer (some ⟨B, 0, none⟩)] 151)).heap.size = d + 1 by rw [← hd]; simp] at O1
  rw [show ((w.alloc (.cells #[.pointer (some ⟨B, 0, none⟩)] 151)).alloc (.cells #[.slice none 0 0] 61)).heap.size = d + 2 by rw [← hd]; simp] at O2
  rw [hd] at O0
  have CH := ((((Chg.refl (· = B) w).alloc (.cells #[.pointer (some ⟨B, 0, none⟩)] 151)).alloc (.cells #[.slice none 0 0] 61)).alloc (.cells #[.bool false] 4))
  have OB := ((h.obj.alloc (.cells #[.pointer (some ⟨B, 0, none⟩)] 151)).alloc (.cells #[.slice none 0 0] 61)).alloc (.cells #[.bool false] 4)
  have hmf : ∀ (fn : Fn) (first cap : Array Value) (w : World), (Instr.makeFunc fn first cap).run Tryz.prog w = .ok (.func fn first cap) w := fun _ _ _ _ => rfl
  have lO2 := O2.lt
  cases ho : b.op with
  | true =>
    have eo : b.out = .slice (some ⟨b.g, 0, none⟩) b.d.length b.d.length := by unfold Bf.out; rw [if_pos ho]
    rw [eo]
    have e1 : b.cells.toArray = #[.pointer (some ⟨b.L, 0, none⟩), .slice (some ⟨b.g, 0, none⟩) b.d.length b.d.length, .int .u32 0, .int .i32 0, .int .u32 0] := by unfold Bf.cells; rw [ho]; rfl
    have e2 : b.shut.cells.toArray = #[.pointer (some ⟨b.L, 0, none⟩), .slice none 0 0, .int .u32 1, .int .i32 0, .int .u32 0] := rfl
    rw [e1] at OB
    have hBd : B < d := by omega
    have HLC := Hi (left_chg B d b.g b.d.length (((w.alloc (.cells #[.pointer (some ⟨B, 0, none⟩)] 151)).alloc (.cells #[.slice none 0 0] 61)).alloc (.cells #[.bool false] 4)))
    have HLV := left_vars (g := b.g) (m := b.d.length) hBd O1 O2
    have HDO := Hi ((bdo_once B d b.g b.d.length _ _ _ _ _ (((w.alloc (.cells #[.pointer (some ⟨B, 0, none⟩)] 151)).alloc (.cells #[.slice none 0 0] 61)).alloc (.cells #[.bool false] 4)) hBd OB ((O0.cell 0).trans rfl) ((O1.cell 0).trans rfl) ((O2.cell 0).trans rfl) (O1.frozen 0) (O2.frozen 0)))
    have OB := Hi (left_obj hBd OB)
    have O1 := Hi HLV.1
    have O2 := Hi HLV.2
    have CH := Hi ((CH.mono (S' := fun k => k = B ∨ d ≤ k) (fun k _ hk => Or.inl hk)).trans (HLC.out.mono (fun k _ hk => by rcases hk with rfl | rfl | rfl <;> omega)))
    have FIN := Hi (fun w' (hc : Chg (· = B) w w') (hB : Obj1 w' B #[.pointer (some ⟨b.L, 0, none⟩), .slice none 0 0, .int .u32 1, .int .i32 0, .int .u32 0] 233) => (show BufAt w' B b.shut from ⟨by rw [e2]; exact hB, fun h => (by cases h), H.out.byt, H.out.ne, H.out.nl, H.out.gl, H.out.sz⟩))
    have CH := Hi (CH.out.mono (S' := (· = B)) (fun k hk hh => by omega))
    obtain ⟨g, hg⟩ : ∃ g, b.g = g := ⟨_, rfl⟩
    obtain ⟨m, hm⟩ : ∃ m, b.d.length = m := ⟨_, rfl⟩
    rw [hg, hm] at OB O1 O2 CH HDO ⊢
    clear h ho eo e1 e2 HLV hg hm O0 HLC
    go_enter Tryz.func164, Tryz.ntmps164
    go_upto_region 1 with (fail)
    skip
    go_upto_region 2 with ((go_at_call 211; (with_reducible refine (HDO.out).mono ?_); rintro e wz ⟨rfl, hz⟩); rw [hz] at OB O1 O2 CH; clear hz)
    have O1 := Hi O1.out.drew
    have O2 := Hi O2.out.drew
    have OB := Hi OB.out.drew
    have CH := Hi CH.out.drew
    refine wp_region_noPanic ?_
    refine wp_region_T (fun w' => w'.cell? ⟨d + 1, 0, none⟩ = some (.slice (some ⟨g, 0, none⟩) m m) ∧ w'.cell? ⟨d + 2, 0, none⟩ = some (.bool true)) (fun i => decide (3 ≤ i)) (by kernel_rfl) ?_
    generalize World.drew wz = wk at O1 O2 OB CH ⊢
    have hS0 : wk.cell? ⟨d + 1, 0, none⟩ = some (.slice (some ⟨g, 0, none⟩) m m) ∧ wk.cell? ⟨d + 2, 0, none⟩ = some (.bool true) := ⟨O1.out.cell 0, O2.out.cell 0⟩
    refine wpAnyT_take (i := 0) (v := .slice (some ⟨g, 0, none⟩) m m) rfl (by kernel_rfl) (by kernel_rfl) (by kernel_rfl) (by kernel_rfl) rfl (fun _ _ _ h => h) (Or.inl ⟨by rfl, fun w hS => by (have hc := hS.1; go_simp)⟩) hS0 ?_
    simp only [Act.put, zq1, zq2, zq3, zq4, zq5, zq6]
    refine wpAnyT_take (i := 1) (v := .bool true) rfl (by kernel_rfl) (by kernel_rfl) (by kernel_rfl) (by kernel_rfl) rfl (fun _ _ _ h => h) (Or.inl ⟨by rfl, fun w hS => by (have hc := hS.2; go_simp)⟩) hS0 ?_
    simp only [Act.put, zq1, zq2, zq3, zq4, zq5, zq6]
    refine wpAnyT_mid (i := 2) (by kernel_rfl) rfl ?_
    intro K' hK
    have hc := (O1.out.cell 0).trans (show _ = some (.slice (some ⟨g, 0, none⟩) m m) from rfl)
    have hf := O1.out.frozen 0
    go_simp
    have O1 := Hi (O1.out.set 0 (.slice (some ⟨g, 0, none⟩) m m))
    have O2 := Hi (O2.out.set_other ⟨d + 1, 0, none⟩ (.slice (some ⟨g, 0, none⟩) m m) (by simp))
    have OB := Hi (OB.out.set_other ⟨d + 1, 0, none⟩ (.slice (some ⟨g, 0, none⟩) m m) (by simp; omega))
    have CH := Hi (CH.out.set ⟨d + 1, 0, none⟩ (.slice (some ⟨g, 0, none⟩) m m) (Or.inr (by show w.heap.size ≤ d + 1; omega)))
    generalize World.setCell _ _ _ = wk2 at O1 O2 OB CH ⊢
    clear hc hf
    refine hK _ _ ⟨O1.out.cell 0, O2.out.cell 0⟩ ?_
    clear hK K'
    try simp only [Act.put, zq1, zq2, zq3, zq4, zq5, zq6]
    refine wpAnyT_one (i := 3) (by kernel_rfl) rfl rfl ?_
    intro K' hK
    have hc := (O2.out.cell 0).trans (show _ = some (.bool true) from rfl)
    have hf := O2.out.frozen 0
    go_simp
    have O2 := Hi (O2.out.set 0 (.bool true))
    have O1 := Hi (O1.out.set_other ⟨d + 2, 0, none⟩ (.bool true) (by simp))
    have OB := Hi (OB.out.set_other ⟨d + 2, 0, none⟩ (.bool true) (by simp; omega))
    have CH := Hi (CH.out.set ⟨d + 2, 0, none⟩ (.bool true) (Or.inr (by show w.heap.size ≤ d + 2; omega)))
    generalize World.setCell _ _ _ = wk3 at O1 O2 OB CH ⊢
    clear hc hf
    refine hK _ _ ?_
    clear hK K'
    try simp only [Act.put, zq1, zq2, zq3, zq4, zq5, zq6]
    refine wpAnyT_done (by kernel_rfl) ?_ _
    refine NoPanic.normal ?_
    have hr1 := (O1.out.cell 0).trans (show _ = some (.slice (some ⟨g, 0, none⟩) m m) from rfl)
    have hr2 := (O2.out.cell 0).trans (show _ = some (.bool true) from rfl)
    have hr3 : wk3.cell? ⟨d + 1 + 1, 0, none⟩ = _ := hr2
    go_wp2_with fail
    refine bodyPost_ret (v := .tuple #[.slice (some ⟨g, 0, none⟩) m m, .bool true]) ?_ rfl ⟨rfl, FIN.out _ CH.out OB.out, CH.out⟩
    exact results_2c Tryz.results164 _ _ (d + 1) (d + 1 + 1) _ _ rfl (by simp [go_sem, loadVar, hr1]) rfl (by simp [go_sem, loadVar, hr3])
  | false =>
    have eo : b.out = .slice none 0 0 := by unfold Bf.out; rw [ho]; rfl
    rw [eo]
    have e1 : b.cells.toArray = #[.pointer (some ⟨b.L, 0, none⟩), .slice none 0 0, .int .u32 1, .int .i32 0, .int .u32 0] := by unfold Bf.cells; rw [ho]; rfl
    have e2 : b.shut.cells.toArray = #[.pointer (some ⟨b.L, 0, none⟩), .slice none 0 0, .int .u32 1, .int .i32 0, .int .u32 0] := rfl
    rw [e1] at OB
    have HDO := Hi (fun F => bdo_done B F (((w.alloc (.cells #[.pointer (some ⟨B, 0, none⟩)] 151)).alloc (.cells #[.slice none 0 0] 61)).alloc (.cells #[.bool false] 4)) ((OB.cell 2).trans rfl))
    have OB := Hi OB
    have O1 := Hi O1
    have O2 := Hi O2
    have CH := Hi CH
    have FIN := Hi (fun w' (hc : Chg (· = B) w w') (hB : Obj1 w' B #[.pointer (some ⟨b.L, 0, none⟩), .slice none 0 0, .int .u32 1, .int .i32 0, .int .u32 0] 233) => (show BufAt w' B b.shut from ⟨by rw [e2]; exact hB, fun h => (by cases h), H.out.byt, H.out.ne, H.out.nl, H.out.gl, H.out.sz⟩))
    clear h ho eo e1 e2 O0
    go_enter Tryz.func164, Tryz.ntmps164
    go_upto_region 1 with (fail)
    skip
    go_upto_region 2 with ((go_at_call 211; (with_reducible refine (HDO.out _).mono ?_); rintro e wz ⟨rfl, hz⟩); rw [hz] at OB O1 O2 CH; clear hz)
    have O1 := Hi O1.out.drew
    have O2 := Hi O2.out.drew
    have OB := Hi OB.out.drew
    have CH := Hi CH.out.drew
    refine wp_region_noPanic ?_
    refine wp_region_T (fun w' => w'.cell? ⟨d + 1, 0, none⟩ = some (.slice none 0 0) ∧ w'.cell? ⟨d + 2, 0, none⟩ = some (.bool false)) (fun i => decide (3 ≤ i)) (by kernel_rfl) ?_
    generalize World.drew wz = wk at O1 O2 OB CH ⊢
    have hS0 : wk.cell? ⟨d + 1, 0, none⟩ = some (.slice none 0 0) ∧ wk.cell? ⟨d + 2, 0, none⟩ = some (.bool false) := ⟨O1.out.cell 0, O2.out.cell 0⟩
    refine wpAnyT_take (i := 0) (v := .slice none 0 0) rfl (by kernel_rfl) (by kernel_rfl) (by kernel_rfl) (by kernel_rfl) rfl (fun _ _ _ h => h) (Or.inl ⟨by rfl, fun w hS => by (have hc := hS.1; go_simp)⟩) hS0 ?_
    simp only [Act.put, zq1, zq2, zq3, zq4, zq5, zq6]
    refine wpAnyT_take (i := 1) (v := .bool false) rfl (by kernel_rfl) (by kernel_rfl) (by kernel_rfl) (by kernel_rfl) rfl (fun _ _ _ h => h) (Or.inl ⟨by rfl, fun w hS => by (have hc := hS.2; go_simp)⟩) hS0 ?_
    simp only [Act.put, zq1, zq2, zq3, zq4, zq5, zq6]
    refine wpAnyT_mid (i := 2) (by kernel_rfl) rfl ?_
    intro K' hK
    have hc := (O1.out.cell 0).trans (show _ = some (.slice none 0 0) from rfl)
    have hf := O1.out.frozen 0
    go_simp
    have O1 := Hi (O1.out.set 0 (.slice none 0 0))
    have O2 := Hi (O2.out.set_other ⟨d + 1, 0, none⟩ (.slice none 0 0) (by simp))
    have OB := Hi (OB.out.set_other ⟨d + 1, 0, none⟩ (.slice none 0 0) (by simp; omega))
    have CH := Hi (CH.out.set ⟨d + 1, 0, none⟩ (.slice none 0 0) (Or.inr (by show w.heap.size ≤ d + 1; omega)))
    generalize World.setCell _ _ _ = wk2 at O1 O2 OB CH ⊢
    clear hc hf
    refine hK _ _ ⟨O1.out.cell 0, O2.out.cell 0⟩ ?_
    clear hK K'
    try simp only [Act.put, zq1, zq2, zq3, zq4, zq5, zq6]
    refine wpAnyT_one (i := 3) (by kernel_rfl) rfl rfl ?_
    intro K' hK
    have hc := (O2.out.cell 0).trans (show _ = some (.bool false) from rfl)
    have hf := O2.out.frozen 0
    go_simp
    have O2 := Hi (O2.out.set 0 (.bool false))
    have O1 := Hi (O1.out.set_other ⟨d + 2, 0, none⟩ (.bool false) (by simp))
    have OB := Hi (OB.out.set_other ⟨d + 2, 0, none⟩ (.bool false) (by simp; omega))
    have CH := Hi (CH.out.set ⟨d + 2, 0, none⟩ (.bool false) (Or.inr (by show w.heap.size ≤ d + 2; omega)))
    generalize World.setCell _ _ _ = wk3 at O1 O2 OB CH ⊢
    clear hc hf
    refine hK _ _ ?_
    clear hK K'
    try simp only [Act.put, zq1, zq2, zq3, zq4, zq5, zq6]
    refine wpAnyT_done (by kernel_rfl) ?_ _
    refine NoPanic.normal ?_
    have hr1 := (O1.out.cell 0).trans (show _ = some (.slice none 0 0) from rfl)
    have hr2 := (O2.out.cell 0).trans (show _ = some (.bool false) from rfl)
    have hr3 : wk3.cell? ⟨d + 1 + 1, 0, none⟩ = _ := hr2
    go_wp2_with fail
    refine bodyPost_ret (v := .tuple #[.slice none 0 0, .bool false]) ?_ rfl ⟨rfl, FIN.out _ CH.out OB.out, CH.out⟩
    exact results_2c Tryz.results164 _ _ (d + 1) (d + 1 + 1) _ _ rfl (by simp [go_sem, loadVar, hr1]) rfl (by simp [go_sem, loadVar, hr3])
set_option maxRecDepth 100000 in
theorem bout_any (B : Nat) (b : Bf) (w : World) (h : BufAt w B b) : Calls Tryz.prog 96 #[.pointer (some ⟨B, 0, none⟩)] w fun e w' =>
      e = .returned (.tuple #[b.out, .bool b.op]) ∧ BufAt w' B b.shut ∧ Chg (· = B) w w' := by
  have HL := Hi (bleave_any B b w h)
  clear h
  go_enter Tryz.func96, Tryz.ntmps96
  go_wp2_with ((go_at_call 164; (with_reducible refine (HL.out).mono ?_); rintro e w1 ⟨rfl, hB, hC⟩); have HB := Hi hB; have HC := Hi hC; clear hB hC)
  go_ret2
  exact ⟨rfl, HB.out, HC.out⟩
set_option maxRecDepth 100000 in
set_option maxHeartbeats 4000000 in
theorem bfree_any (B : Nat) (b : Bf) (l : Led) (w : World) (h : BufAt w B b) (hl : LedAt w b.L l) : Calls Tryz.prog 147 #[.pointer (some ⟨B, 0, none⟩)] w fun e w' =>
      e = .returned (.bool (b.op && (l.give b.d.length).2)) ∧ BufAt w' B b.shut ∧ LedAt w' b.L (if b.op = true then (l.give b.d.length).1 else l) ∧ Chg (fun k => k = B ∨ k = b.L) w w' := by
  have HL := Hi (bleave_any B b w h)
  have H := Hi h
  have HD := Hi hl
  cases ho : b.op with
  | true =>
    have HL := Hi (HL.out.mono (R' := fun e w' => e = .returned (.tuple #[.slice (some ⟨b.g, 0, none⟩) b.d.length b.d.length, .bool true]) ∧ BufAt w' B b.shut ∧ Chg (· = B) w w') fun e w' hh => by unfold Bf.out at hh; rw [ho] at hh; exact hh)
    have HG := Hi (fun w1 (hC : Chg (· = B) w w1) => give_any b.L l b.d.length w1 (HD.out.chg hC (fun e => H.out.nl e.symm)))
    obtain ⟨g, hg⟩ : ∃ g, b.g = g := ⟨_, rfl⟩
    obtain ⟨L, hL⟩ : ∃ L, b.L = L := ⟨_, rfl⟩
    have hC0 := Hi (fun w1 (hB : BufAt w1 B b.shut) => (show w1.cell? ⟨B, 0, none⟩ = some (.pointer (some ⟨L, 0, none⟩)) by rw [← hL]; exact hB.c0))
    have HN := Hi (show B ≠ L by rw [← hL]; exact h.nl)
    have HGL := Hi (show b.shut.g ≠ L by rw [← hL]; exact h.gl)
    obtain ⟨m, hm⟩ : ∃ m, b.d.length = m := ⟨_, rfl⟩
    rw [hg, hm] at HL
    rw [hL, hm] at HG
    rw [hL, hm, if_pos rfl]
    obtain ⟨gr, hgr⟩ : ∃ gr, (l.give m).2 = gr := ⟨_, rfl⟩
    rw [hgr] at HG ⊢
    clear h hl ho hg hL hm hgr
    go_enter Tryz.func147, Tryz.ntmps147
    go_wp2_with (first
      | ((with_reducible refine skip_g rfl ?_ ?_); rfl; intro _)
      | ((go_at_call 164; (with_reducible refine (HL.out).mono ?_); rintro e w1 ⟨rfl, hB, hC⟩); have HB := Hi hB; have HC := Hi hC; have c0 := hC0.out _ hB; clear hB hC)
      | ((go_at_call 210; (with_reducible refine (HG.out _ HC.out).mono ?_); rintro e w2 ⟨rfl, hL, hC2⟩); have HL2 := Hi hL; have HC2 := Hi hC2; clear hL hC2))
    go_ret
    exact ⟨rfl, HB.out.chg HC2.out HN.out HGL.out, HL2.out, (HC.out.mono (fun k _ hk => Or.inl hk)).trans (HC2.out.mono (fun k _ hk => Or.inr hk))⟩
  | false =>
    have HL := Hi (HL.out.mono (R' := fun e w' => e = .returned (.tuple #[.slice none 0 0, .bool false]) ∧ BufAt w' B b.shut ∧ Chg (· = B) w w') fun e w' hh => by unfold Bf.out at hh; rw [ho] at hh; exact hh)
    rw [if_neg (by decide), Bool.false_and]
    clear h hl ho
    go_enter Tryz.func147, Tryz.ntmps147
    go_wp2_with (first
      | ((with_reducible refine skip_g rfl ?_ ?_); rfl; intro _)
      | ((go_at_call 164; (with_reducible refine (HL.out).mono ?_); rintro e w1 ⟨rfl, hB, hC⟩); have HB := Hi hB; have HC := Hi hC; clear hB hC))
    go_ret
    exact ⟨rfl, HB.out, HD.out.chg HC.out (fun e => H.out.nl e.symm), HC.out.mono (fun k _ hk => Or.inl hk)⟩
end Go.Proofs.YtlfbaggcfaenlaaGreat

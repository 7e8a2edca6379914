/- Parts. -/
import Derived.Test.YtfchnibjjokmbaaGreatK1
import Derived.Deep.AppendLies
import Derived.Deep.RegionLaw
import Derived.Shelf.Bits.Mul64
import Derived.OrdersHeld
set_option linter.all false
set_option maxRecDepth 100000
set_option maxHeartbeats 16000000
open Go.Value renaming int → J, pointer → Y
open Go.IntKind renaming i64 → I, u8 → U
namespace Go.Proofs.YtfchnibjjokmbaaGreat
open Go.RowKit
theorem results_2c {P : Program} {fn : Func} {p q : Tmp} {ty ty2 : TypeId} (h : fn.results = #[.cell p ty, .cell q ty2]) (tmps : Array Value) (w : World) (b b2 : Nat) (v v2 : Value)
 (hp : tmps.getD p undef = Y (some ⟨b, 0, none⟩)) (hl : (loadVar ty ⟨b, 0, none⟩).run P w = .ok v w) (hq : tmps.getD q undef = Y (some ⟨b2, 0, none⟩)) (hl2 : (loadVar ty2 ⟨b2, 0, none⟩).run P w = .ok v2 w) : (results fn tmps).run P w = .ok (.tuple #[v, v2]) w := by
 have hp' : tmps[p]?.getD undef = Y (some ⟨b, 0, none⟩) := by simpa using hp
 have hq' : tmps[q]?.getD undef = Y (some ⟨b2, 0, none⟩) := by simpa using hq
 simp [results, h, hp', hq', asAddr, hl, hl2]
theorem leave1 (B d g m : Nat) (x1 x2 : Value) (w : World) (hB : B < d) (c0 : w.cell? ⟨d, 0, none⟩ = some (Y (some ⟨B, 0, none⟩))) (c1 : w.cell? ⟨d + 1, 0, none⟩ = some x1) (c2 : w.cell? ⟨d + 2, 0, none⟩ = some x2) (cB : w.cell? ⟨B, 1, none⟩ = some (.slice (some ⟨g, 0, none⟩) m m))
 (f1 : w.frozen? ⟨d + 1, 0, none⟩ = false) (f2 : w.frozen? ⟨d + 2, 0, none⟩ = false) (fB : w.frozen? ⟨B, 1, none⟩ = false) :
 Calls Tryz.prog 147 #[Y (some ⟨d, 0, none⟩), Y (some ⟨d + 1, 0, none⟩), Y (some ⟨d + 2, 0, none⟩)] w fun e w' =>
  e = .returned (.tuple #[]) ∧ (((w.drew.setCell ⟨d + 1, 0, none⟩ (.slice (some ⟨g, 0, none⟩) m m)).setCell ⟨d + 2, 0, none⟩ (.bool true)).setCell ⟨B, 1, none⟩ (.slice none 0 0)) = w' := by
 go_enter Tryz.func147, Tryz.ntmps147
 go_upto_region 0 with (fail)
 refine wp_region_noPanic ?_
 refine wp_region_T (fun w' => w'.cell? ⟨d, 0, none⟩ = some (Y (some ⟨B, 0, none⟩)) ∧ w'.cell? ⟨B, 1, none⟩ = some (.slice (some ⟨g, 0, none⟩) m m)) (fun i => decide (7 ≤ i)) (by kernel_rfl) ?_
 have hS0 : (World.drew w).cell? ⟨d, 0, none⟩ = some (Y (some ⟨B, 0, none⟩)) ∧ (World.drew w).cell? ⟨B, 1, none⟩ = some (.slice (some ⟨g, 0, none⟩) m m) := ⟨c0, cB⟩
 refine zT 0 (Y (some ⟨B, 0, none⟩)) rfl hS0 ?_ (hy := fun w hS => by (have hc := hS.1; go_simp))
 refine zT 1 (Y (some ⟨B, 0, none⟩)) rfl hS0 ?_ (hy := fun w hS => by (have hc := hS.1; go_simp))
 refine zT 2 (Y (some ⟨B, 0, none⟩)) rfl hS0 ?_ (hy := fun w hS => by (go_simp))
 refine zT 3 (Y (some ⟨B, 1, none⟩)) rfl hS0 ?_ (hy := fun w hS => by (go_simp))
 refine zT 4 (.slice (some ⟨g, 0, none⟩) m m) rfl hS0 ?_ (hy := fun w hS => by (have hc := hS.2; go_simp))
 have k1 : (World.drew w).cell? ⟨d + 1, 0, none⟩ = some x1 := c1
 have k2 : (World.drew w).cell? ⟨d + 2, 0, none⟩ = some x2 := c2
 have g1 : (World.drew w).frozen? ⟨d + 1, 0, none⟩ = false := f1
 have g2 : (World.drew w).frozen? ⟨d + 2, 0, none⟩ = false := f2
 have gB : (World.drew w).frozen? ⟨B, 1, none⟩ = false := fB
 obtain ⟨wk, hwk⟩ : ∃ z, World.drew w = z := ⟨_, rfl⟩
 rw [hwk] at hS0 k1 k2 g1 g2 gB ⊢
 refine wpAnyT_mid (i := 5) (by kernel_rfl) rfl ?_
 intro K' hK
 go_simp
 have hS1 : (wk.setCell ⟨d + 1, 0, none⟩ (.slice (some ⟨g, 0, none⟩) m m)).cell? ⟨d, 0, none⟩ = some (Y (some ⟨B, 0, none⟩)) ∧ (wk.setCell ⟨d + 1, 0, none⟩ (.slice (some ⟨g, 0, none⟩) m m)).cell? ⟨B, 1, none⟩ = some (.slice (some ⟨g, 0, none⟩) m m) := ⟨(World.cell?_setCell_other _ _ _ _ (by simp)).trans hS0.1, (World.cell?_setCell_other _ _ _ _ (by simp <;> omega)).trans hS0.2⟩
 have k2 := (show (wk.setCell ⟨d + 1, 0, none⟩ (.slice (some ⟨g, 0, none⟩) m m)).cell? ⟨d + 2, 0, none⟩ = some x2 from (World.cell?_setCell_other _ _ _ _ (by simp)).trans k2)
 have g2' : (wk.setCell ⟨d + 1, 0, none⟩ (.slice (some ⟨g, 0, none⟩) m m)).frozen? ⟨d + 2, 0, none⟩ = false := by simpa using g2
 refine hK _ _ hS1 ?_
 clear hK K'
 try simp only [Act.put, zq1, zq2, zq3, zq4, zq5, zq6]
 refine wpAnyT_mid (i := 6) (by kernel_rfl) rfl ?_
 intro K' hK
 go_simp
 have hS2 : ((wk.setCell ⟨d + 1, 0, none⟩ (.slice (some ⟨g, 0, none⟩) m m)).setCell ⟨d + 2, 0, none⟩ (.bool true)).cell? ⟨d, 0, none⟩ = some (Y (some ⟨B, 0, none⟩)) ∧ ((wk.setCell ⟨d + 1, 0, none⟩ (.slice (some ⟨g, 0, none⟩) m m)).setCell ⟨d + 2, 0, none⟩ (.bool true)).cell? ⟨B, 1, none⟩ = some (.slice (some ⟨g, 0, none⟩) m m) := ⟨(World.cell?_setCell_other _ _ _ _ (by simp)).trans hS1.1, (World.cell?_setCell_other _ _ _ _ (by simp <;> omega)).trans hS1.2⟩
 have gB2 : ((wk.setCell ⟨d + 1, 0, none⟩ (.slice (some ⟨g, 0, none⟩) m m)).setCell ⟨d + 2, 0, none⟩ (.bool true)).frozen? ⟨B, 1, none⟩ = false := by simpa using gB
 refine hK _ _ hS2 ?_
 clear hK K'
 try simp only [Act.put, zq1, zq2, zq3, zq4, zq5, zq6]
 refine wpAnyT_one (i := 7) (by kernel_rfl) rfl rfl ?_
 intro K' hK
 go_simp
 refine hK _ _ ?_
 clear hK K'
 try simp only [Act.put, zq1, zq2, zq3, zq4, zq5, zq6]
 refine wpAnyT_one (i := 8) (by kernel_rfl) rfl rfl ?_
 intro K' hK
 go_simp
 refine hK _ _ ?_
 clear hK K'
 try simp only [Act.put, zq1, zq2, zq3, zq4, zq5, zq6]
 refine wpAnyT_one (i := 9) (by kernel_rfl) rfl rfl ?_
 intro K' hK
 have hcB := hS2.2
 go_simp
 refine hK _ _ ?_
 clear hK K'
 try simp only [Act.put, zq1, zq2, zq3, zq4, zq5, zq6]
 refine wpAnyT_done (by kernel_rfl) ?_ _
 refine NoPanic.normal ?_
 rw [← hwk]
 go_end0
 exact ⟨rfl, rfl⟩
def Left (B d g m : Nat) (w : World) : World := ((((((w.setCell ⟨B, 3, none⟩ (.int .i32 1)).drew.setCell ⟨d + 1, 0, none⟩ (.slice (some ⟨g, 0, none⟩) m m)).setCell ⟨d + 2, 0, none⟩ (.bool true)).setCell ⟨B, 1, none⟩ (.slice none 0 0)).drew.setCell ⟨B, 2, none⟩ (.int .u32 1)).setCell ⟨B, 3, none⟩ (.int .i32 0))
theorem bslow_once (B d g m : Nat) (x1 x2 b0 b4 : Value) (T : TypeId) (w : World) (hB : B < d)
 (h : Obj1 w B #[b0, .slice (some ⟨g, 0, none⟩) m m, .int .u32 0, .int .i32 0, b4] T)
 (c0 : w.cell? ⟨d, 0, none⟩ = some (Y (some ⟨B, 0, none⟩))) (c1 : w.cell? ⟨d + 1, 0, none⟩ = some x1) (c2 : w.cell? ⟨d + 2, 0, none⟩ = some x2) (f1 : w.frozen? ⟨d + 1, 0, none⟩ = false) (f2 : w.frozen? ⟨d + 2, 0, none⟩ = false) :
 Calls Tryz.prog 183 #[Y (some ⟨B, 2, none⟩), .func (.func 147) #[] #[Y (some ⟨d, 0, none⟩), Y (some ⟨d + 1, 0, none⟩), Y (some ⟨d + 2, 0, none⟩)]] w fun e w' =>
  e = .returned (.tuple #[]) ∧ Left B d g m w = w' := by
 have h1 := h.set 3 (.int .i32 1)
 have h2 := ((h1.drew.set_other ⟨d + 1, 0, none⟩ (.slice (some ⟨g, 0, none⟩) m m) (by simp; omega)).set_other ⟨d + 2, 0, none⟩ (.bool true) (by simp; omega)).set 1 (.slice none 0 0)
 have h3 := h2.drew.set 2 (.int .u32 1)
 have H := Hi h
 have H1 := Hi h1
 have H2 := Hi h2
 have H3 := Hi h3
 have hnot : ∀ (x : Bool) (w : World), (Op.unary .not (.bool x)).run Tryz.prog w = .ok (.bool (!x)) w := fun _ _ => rfl
 have HL := Hi (lock_free B 3 w ((h.cell 3).trans rfl) (h.frozen 3))
 have HB := Hi (bload_f B 2 _ ((h1.cell 2).trans rfl))
 have HC := Hi (leave1 B d g m x1 x2 (w.setCell ⟨B, 3, none⟩ (.int .i32 1)) hB ((World.cell?_setCell_other _ _ _ _ (by simp <;> omega)).trans c0) ((World.cell?_setCell_other _ _ _ _ (by simp <;> omega)).trans c1) ((World.cell?_setCell_other _ _ _ _ (by simp <;> omega)).trans c2) ((h1.cell 1).trans rfl) (by simpa using f1) (by simpa using f2) (h1.frozen 1))
 clear h h1 h2 h3 c0 c1 c2 f1 f2
 go_enter_defers Tryz.func183, Tryz.ntmps183
 go_wp2_with (first
  | (go_at_call 204; (with_reducible refine (HL.out).mono ?_); rintro e w1 ⟨rfl, rfl⟩)
  | (go_at_call 31; (with_reducible refine (HB.out).mono ?_); rintro e w1 ⟨rfl, rfl⟩)
  | (go_at_call 147; (with_reducible refine (HC.out).mono ?_); rintro e w1 ⟨rfl, rfl⟩))
 refine leaves_cons (f := 161) (args := #[Y (some ⟨B, 2, none⟩), .bool true]) (by simp) (by simp [go_sem]) ?_
 refine (store_deferred B 2 (.int .u32 0) .returning _ ((H2.out.cell 2).trans rfl) (H2.out.frozen 2)).mono ?_
 rintro e u' w'' ⟨rfl, rfl, rfl⟩
 refine leaves_cons (f := 205) (args := #[Y (some ⟨B, 3, none⟩)]) (by simp [settle]) (by simp [go_sem]) ?_
 refine (unlock_deferred B 3 _ _ ((H3.out.cell 3).trans rfl) (H3.out.frozen 3)).mono ?_
 rintro e u' w'' ⟨rfl, rfl, rfl⟩
 simp [Leaves, settle, results, Tryz.results183]
 rfl
theorem left_obj {B d g m : Nat} {b0 b4 : Value} {T : TypeId} {w : World} (hB : B < d) (h : Obj1 w B #[b0, .slice (some ⟨g, 0, none⟩) m m, .int .u32 0, .int .i32 0, b4] T) :
 Obj1 (Left B d g m w) B #[b0, .slice none 0 0, .int .u32 1, .int .i32 0, b4] T := by
 have := ((((((h.set 3 (.int .i32 1)).drew.set_other ⟨d + 1, 0, none⟩ (.slice (some ⟨g, 0, none⟩) m m) (by simp; omega)).set_other ⟨d + 2, 0, none⟩ (.bool true) (by simp; omega)).set 1 (.slice none 0 0)).drew.set 2 (.int .u32 1)).set 3 (.int .i32 0))
 simp only [List.setIfInBounds_toArray, List.set_cons_succ, List.set_cons_zero] at this
 exact this
theorem left_chg (B d g m : Nat) (w : World) : Chg (fun k => k = B ∨ k = d + 1 ∨ k = d + 2) w (Left B d g m w) := by
 unfold Left
 refine Chg.set ?_ ⟨B, 3, none⟩ _ (Or.inl (Or.inl rfl))
 refine Chg.set (Chg.drew ?_) ⟨B, 2, none⟩ _ (Or.inl (Or.inl rfl))
 refine Chg.set ?_ ⟨B, 1, none⟩ _ (Or.inl (Or.inl rfl))
 refine Chg.set ?_ ⟨d + 2, 0, none⟩ _ (Or.inl (Or.inr (Or.inr rfl)))
 refine Chg.set (Chg.drew ?_) ⟨d + 1, 0, none⟩ _ (Or.inl (Or.inr (Or.inl rfl)))
 refine Chg.set ?_ ⟨B, 3, none⟩ _ (Or.inl (Or.inl rfl))
 exact Chg.refl _ w
theorem left_vars {B d g m : Nat} {x1 x2 : Value} {T1 T2 : TypeId} {w : World} (hB : B < d) (h1 : Obj1 w (d + 1) #[x1] T1) (h2 : Obj1 w (d + 2) #[x2] T2) :
 Obj1 (Left B d g m w) (d + 1) #[.slice (some ⟨g, 0, none⟩) m m] T1 ∧ Obj1 (Left B d g m w) (d + 2) #[.bool true] T2 := by
 constructor
 · exact ((((((h1.set_other ⟨B, 3, none⟩ (.int .i32 1) (by simp; omega)).drew.set 0 (.slice (some ⟨g, 0, none⟩) m m)).set_other ⟨d + 2, 0, none⟩ (.bool true) (by simp)).set_other ⟨B, 1, none⟩ (.slice none 0 0) (by simp; omega)).drew.set_other ⟨B, 2, none⟩ (.int .u32 1) (by simp; omega)).set_other ⟨B, 3, none⟩ (.int .i32 0) (by simp; omega))
 · exact ((((((h2.set_other ⟨B, 3, none⟩ (.int .i32 1) (by simp; omega)).drew.set_other ⟨d + 1, 0, none⟩ (.slice (some ⟨g, 0, none⟩) m m) (by simp)).set 0 (.bool true)).set_other ⟨B, 1, none⟩ (.slice none 0 0) (by simp; omega)).drew.set_other ⟨B, 2, none⟩ (.int .u32 1) (by simp; omega)).set_other ⟨B, 3, none⟩ (.int .i32 0) (by simp; omega))
theorem bdo_once (B d g m : Nat) (x1 x2 b0 b4 : Value) (T : TypeId) (w : World) (hB : B < d)
 (h : Obj1 w B #[b0, .slice (some ⟨g, 0, none⟩) m m, .int .u32 0, .int .i32 0, b4] T)
 (c0 : w.cell? ⟨d, 0, none⟩ = some (Y (some ⟨B, 0, none⟩))) (c1 : w.cell? ⟨d + 1, 0, none⟩ = some x1) (c2 : w.cell? ⟨d + 2, 0, none⟩ = some x2) (f1 : w.frozen? ⟨d + 1, 0, none⟩ = false) (f2 : w.frozen? ⟨d + 2, 0, none⟩ = false) :
 Calls Tryz.prog 146 #[Y (some ⟨B, 2, none⟩), .func (.func 147) #[] #[Y (some ⟨d, 0, none⟩), Y (some ⟨d + 1, 0, none⟩), Y (some ⟨d + 2, 0, none⟩)]] w fun e w' =>
  e = .returned (.tuple #[]) ∧ Left B d g m w = w' := by
 have hnot : ∀ (x : Bool) (w : World), (Op.unary .not (.bool x)).run Tryz.prog w = .ok (.bool (!x)) w := fun _ _ => rfl
 have HB := Hi (bload_f B 2 w ((h.cell 2).trans rfl))
 have HS := Hi (bslow_once B d g m x1 x2 b0 b4 T w hB h c0 c1 c2 f1 f2)
 clear h c0 c1 c2 f1 f2
 go_enter Tryz.func146, Tryz.ntmps146
 go_wp2_with (first
  | (go_at_call 31; (with_reducible refine (HB.out).mono ?_); rintro e w1 ⟨rfl, rfl⟩)
  | (go_at_call 183; (with_reducible refine (HS.out).mono ?_); rintro e w1 ⟨rfl, rfl⟩))
 go_end0
 exact ⟨rfl, rfl⟩
theorem bdo_done (B : Nat) (F : Value) (w : World) (hc : w.cell? ⟨B, 2, none⟩ = some (.int .u32 1)) :
 Calls Tryz.prog 146 #[Y (some ⟨B, 2, none⟩), F] w fun e w' => e = .returned (.tuple #[]) ∧ w = w' := by
 have hnot : ∀ (x : Bool) (w : World), (Op.unary .not (.bool x)).run Tryz.prog w = .ok (.bool (!x)) w := fun _ _ => rfl
 have HB := Hi (bload_t B 2 w hc)
 clear hc
 go_enter Tryz.func146, Tryz.ntmps146
 go_wp2_with (first
  | (go_at_call 31; (with_reducible refine (HB.out).mono ?_); rintro e w1 ⟨rfl, rfl⟩))
 go_end0
 exact ⟨rfl, rfl⟩
def Bf.shut (b : Bf) : Bf := { b with op := false }
def Bf.out (b : Bf) : Value := if b.op = true then .slice (some ⟨b.g, 0, none⟩) b.d.length b.d.length else .slice none 0 0
theorem bleave_any (B : Nat) (b : Bf) (w : World) (h : BufAt w B b) : Calls Tryz.prog 95 #[Y (some ⟨B, 0, none⟩)] w fun e w' =>
 e = .returned (.tuple #[b.out, .bool b.op]) ∧ BufAt w' B b.shut ∧ Chg (· = B) w w' := by
 have hlt := h.lt
 have H := Hi h
 obtain ⟨d, hd⟩ : ∃ d, w.heap.size = d := ⟨_, rfl⟩
 have O0 := ((aA w #[Y (some ⟨B, 0, none⟩)] 120).alloc (.cells #[.slice none 0 0] 27)).alloc (.cells #[.bool false] 4)
 have O1 := (aA (w.alloc (.cells #[Y (some ⟨B, 0, none⟩)] 120)) #[.slice none 0 0] 27).alloc (.cells #[.bool false] 4)
 have O2 := aA ((w.alloc (.cells #[Y (some ⟨B, 0, none⟩)] 120)).alloc (.cells #[.slice none 0 0] 27)) #[.bool false] 4
 rw [show (w.alloc (.cells #[Y (some ⟨B, 0, none⟩)] 120)).heap.size = d + 1 by rw [← hd]; simp] at O1
 rw [show ((w.alloc (.cells #[Y (some ⟨B, 0, none⟩)] 120)).alloc (.cells #[.slice none 0 0] 27)).heap.size = d + 2 by rw [← hd]; simp] at O2
 rw [hd] at O0
 have CH := ((((Chg.refl (· = B) w).alloc (.cells #[Y (some ⟨B, 0, none⟩)] 120)).alloc (.cells #[.slice none 0 0] 27)).alloc (.cells #[.bool false] 4))
 have OB := ((h.obj.alloc (.cells #[Y (some ⟨B, 0, none⟩)] 120)).alloc (.cells #[.slice none 0 0] 27)).alloc (.cells #[.bool false] 4)
 have hmf : ∀ (fn : Fn) (first cap : Array Value) (w : World), (Instr.makeFunc fn first cap).run Tryz.prog w = .ok (.func fn first cap) w := fun _ _ _ _ => rfl
 have lO2 := O2.lt
 cases ho : b.op with
 | true =>
   have eo : b.out = .slice (some ⟨b.g, 0, none⟩) b.d.length b.d.length := by unfold Bf.out; rw [if_pos ho]
   rw [eo]
   have e1 : b.cells.toArray = #[Y (some ⟨b.L, 0, none⟩), .slice (some ⟨b.g, 0, none⟩) b.d.length b.d.length, .int .u32 0, .int .i32 0, .int .u32 0] := by unfold Bf.cells; rw [ho]; rfl
   have e2 : b.shut.cells.toArray = #[Y (some ⟨b.L, 0, none⟩), .slice none 0 0, .int .u32 1, .int .i32 0, .int .u32 0] := rfl
   rw [e1] at OB
   have hBd : B < d := by omega
   have HLC := Hi (left_chg B d b.g b.d.length (((w.alloc (.cells #[Y (some ⟨B, 0, none⟩)] 120)).alloc (.cells #[.slice none 0 0] 27)).alloc (.cells #[.bool false] 4)))
   have HLV := left_vars (g := b.g) (m := b.d.length) hBd O1 O2
   have HDO := Hi ((bdo_once B d b.g b.d.length _ _ _ _ _ (((w.alloc (.cells #[Y (some ⟨B, 0, none⟩)] 120)).alloc (.cells #[.slice none 0 0] 27)).alloc (.cells #[.bool false] 4)) hBd OB ((O0.cell 0).trans rfl) ((O1.cell 0).trans rfl) ((O2.cell 0).trans rfl) (O1.frozen 0) (O2.frozen 0)))
   have OB := Hi (left_obj hBd OB)
   have O1 := Hi HLV.1
   have O2 := Hi HLV.2
   have CH := Hi ((CH.mono (S' := fun k => k = B ∨ d ≤ k) (fun k _ hk => Or.inl hk)).trans (HLC.out.mono (fun k _ hk => by rcases hk with rfl | rfl | rfl <;> omega)))
   have FIN := Hi (fun w' (hc : Chg (· = B) w w') (hB : Obj1 w' B #[Y (some ⟨b.L, 0, none⟩), .slice none 0 0, .int .u32 1, .int .i32 0, .int .u32 0] 204) => (show BufAt w' B b.shut from ⟨by rw [e2]; exact hB, fun h => (by cases h), H.out.byt, H.out.ne, H.out.nl, H.out.gl, H.out.sz⟩))
   have CH := Hi (CH.out.mono (S' := (· = B)) (fun k hk hh => by omega))
   obtain ⟨g, hg⟩ : ∃ g, b.g = g := ⟨_, rfl⟩
   obtain ⟨m, hm⟩ : ∃ m, b.d.length = m := ⟨_, rfl⟩
   rw [hg, hm] at OB O1 O2 CH HDO ⊢
   clear h ho eo e1 e2 HLV hg hm O0 HLC
   go_enter Tryz.func95, Tryz.ntmps95
   go_upto_region 1 with (fail)
   skip
   go_upto_region 2 with ((go_at_call 146; (with_reducible refine (HDO.out).mono ?_); rintro e wz ⟨rfl, hz⟩); rw [hz] at OB O1 O2 CH; clear hz)
   have O1 := Hi O1.out.drew
   have O2 := Hi O2.out.drew
   have OB := Hi OB.out.drew
   have CH := Hi CH.out.drew
   refine wp_region_noPanic ?_
   refine wp_region_T (fun w' => w'.cell? ⟨d + 1, 0, none⟩ = some (.slice (some ⟨g, 0, none⟩) m m) ∧ w'.cell? ⟨d + 2, 0, none⟩ = some (.bool true)) (fun i => decide (3 ≤ i)) (by kernel_rfl) ?_
   generalize World.drew wz = wk at O1 O2 OB CH ⊢
   have hS0 : wk.cell? ⟨d + 1, 0, none⟩ = some (.slice (some ⟨g, 0, none⟩) m m) ∧ wk.cell? ⟨d + 2, 0, none⟩ = some (.bool true) := ⟨O1.out.cell 0, O2.out.cell 0⟩
   refine zT 0 (.slice (some ⟨g, 0, none⟩) m m) rfl hS0 ?_ (hy := fun w hS => by (have hc := hS.1; go_simp))
   refine zT 1 (.bool true) rfl hS0 ?_ (hy := fun w hS => by (have hc := hS.2; go_simp))
   refine wpAnyT_mid (i := 2) (by kernel_rfl) rfl ?_
   intro K' hK
   have hc := (O1.out.cell 0).trans (show _ = some (.slice (some ⟨g, 0, none⟩) m m) from rfl)
   have hf := O1.out.frozen 0
   go_simp
   have O1 := Hi (O1.out.set 0 (.slice (some ⟨g, 0, none⟩) m m))
   have O2 := Hi (O2.out.set_other ⟨d + 1, 0, none⟩ (.slice (some ⟨g, 0, none⟩) m m) (by simp))
   have OB := Hi (OB.out.set_other ⟨d + 1, 0, none⟩ (.slice (some ⟨g, 0, none⟩) m m) (by simp; omega))
   have CH := Hi (CH.out.set ⟨d + 1, 0, none⟩ (.slice (some ⟨g, 0, none⟩) m m) (Or.inr (by show w.heap.size ≤ d + 1; omega)))
   generalize World.setCell _ _ _ = wk2 at O1 O2 OB CH ⊢
   clear hc hf
   refine hK _ _ ⟨O1.out.cell 0, O2.out.cell 0⟩ ?_
   clear hK K'
   try simp only [Act.put, zq1, zq2, zq3, zq4, zq5, zq6]
   refine wpAnyT_one (i := 3) (by kernel_rfl) rfl rfl ?_
   intro K' hK
   have hc := (O2.out.cell 0).trans (show _ = some (.bool true) from rfl)
   have hf := O2.out.frozen 0
   go_simp
   have O2 := Hi (O2.out.set 0 (.bool true))
   have O1 := Hi (O1.out.set_other ⟨d + 2, 0, none⟩ (.bool true) (by simp))
   have OB := Hi (OB.out.set_other ⟨d + 2, 0, none⟩ (.bool true) (by simp; omega))
   have CH := Hi (CH.out.set ⟨d + 2, 0, none⟩ (.bool true) (Or.inr (by show w.heap.size ≤ d + 2; omega)))
   generalize World.setCell _ _ _ = wk3 at O1 O2 OB CH ⊢
   clear hc hf
   refine hK _ _ ?_
   clear hK K'
   try simp only [Act.put, zq1, zq2, zq3, zq4, zq5, zq6]
   refine wpAnyT_done (by kernel_rfl) ?_ _
   refine NoPanic.normal ?_
   have hr1 := (O1.out.cell 0).trans (show _ = some (.slice (some ⟨g, 0, none⟩) m m) from rfl)
   have hr2 := (O2.out.cell 0).trans (show _ = some (.bool true) from rfl)
   have hr3 : wk3.cell? ⟨d + 1 + 1, 0, none⟩ = _ := hr2
   go_wp2_with fail
   refine bodyPost_ret (v := .tuple #[.slice (some ⟨g, 0, none⟩) m m, .bool true]) ?_ rfl ⟨rfl, FIN.out _ CH.out OB.out, CH.out⟩
   exact results_2c Tryz.results95 _ _ (d + 1) (d + 1 + 1) _ _ rfl (by simp [go_sem, loadVar, hr1]) rfl (by simp [go_sem, loadVar, hr3])
 | false =>
   have eo : b.out = .slice none 0 0 := by unfold Bf.out; rw [ho]; rfl
   rw [eo]
   have e1 : b.cells.toArray = #[Y (some ⟨b.L, 0, none⟩), .slice none 0 0, .int .u32 1, .int .i32 0, .int .u32 0] := by unfold Bf.cells; rw [ho]; rfl
   have e2 : b.shut.cells.toArray = #[Y (some ⟨b.L, 0, none⟩), .slice none 0 0, .int .u32 1, .int .i32 0, .int .u32 0] := rfl
   rw [e1] at OB
   have HDO := Hi (fun F => bdo_done B F (((w.alloc (.cells #[Y (some ⟨B, 0, none⟩)] 120)).alloc (.cells #[.slice none 0 0] 27)).alloc (.cells #[.bool false] 4)) ((OB.cell 2).trans rfl))
   have OB := Hi OB
   have O1 := Hi O1
   have O2 := Hi O2
   have CH := Hi CH
   have FIN := Hi (fun w' (hc : Chg (· = B) w w') (hB : Obj1 w' B #[Y (some ⟨b.L, 0, none⟩), .slice none 0 0, .int .u32 1, .int .i32 0, .int .u32 0] 204) => (show BufAt w' B b.shut from ⟨by rw [e2]; exact hB, fun h => (by cases h), H.out.byt, H.out.ne, H.out.nl, H.out.gl, H.out.sz⟩))
   clear h ho eo e1 e2 O0
   go_enter Tryz.func95, Tryz.ntmps95
   go_upto_region 1 with (fail)
   skip
   go_upto_region 2 with ((go_at_call 146; (with_reducible refine (HDO.out _).mono ?_); rintro e wz ⟨rfl, hz⟩); rw [hz] at OB O1 O2 CH; clear hz)
   have O1 := Hi O1.out.drew
   have O2 := Hi O2.out.drew
   have OB := Hi OB.out.drew
   have CH := Hi CH.out.drew
   refine wp_region_noPanic ?_
   refine wp_region_T (fun w' => w'.cell? ⟨d + 1, 0, none⟩ = some (.slice none 0 0) ∧ w'.cell? ⟨d + 2, 0, none⟩ = some (.bool false)) (fun i => decide (3 ≤ i)) (by kernel_rfl) ?_
   generalize World.drew wz = wk at O1 O2 OB CH ⊢
   have hS0 : wk.cell? ⟨d + 1, 0, none⟩ = some (.slice none 0 0) ∧ wk.cell? ⟨d + 2, 0, none⟩ = some (.bool false) := ⟨O1.out.cell 0, O2.out.cell 0⟩
   refine zT 0 (.slice none 0 0) rfl hS0 ?_ (hy := fun w hS => by (have hc := hS.1; go_simp))
   refine zT 1 (.bool false) rfl hS0 ?_ (hy := fun w hS => by (have hc := hS.2; go_simp))
   refine wpAnyT_mid (i := 2) (by kernel_rfl) rfl ?_
   intro K' hK
   have hc := (O1.out.cell 0).trans (show _ = some (.slice none 0 0) from rfl)
   have hf := O1.out.frozen 0
   go_simp
   have O1 := Hi (O1.out.set 0 (.slice none 0 0))
   have O2 := Hi (O2.out.set_other ⟨d + 1, 0, none⟩ (.slice none 0 0) (by simp))
   have OB := Hi (OB.out.set_other ⟨d + 1, 0, none⟩ (.slice none 0 0) (by simp; omega))
   have CH := Hi (CH.out.set ⟨d + 1, 0, none⟩ (.slice none 0 0) (Or.inr (by show w.heap.size ≤ d + 1; omega)))
   generalize World.setCell _ _ _ = wk2 at O1 O2 OB CH ⊢
   clear hc hf
   refine hK _ _ ⟨O1.out.cell 0, O2.out.cell 0⟩ ?_
   clear hK K'
   try simp only [Act.put, zq1, zq2, zq3, zq4, zq5, zq6]
   refine wpAnyT_one (i := 3) (by kernel_rfl) rfl rfl ?_
   intro K' hK
   have hc := (O2.out.cell 0).trans (show _ = some (.bool false) from rfl)
   have hf := O2.out.frozen 0
   go_simp
   have O2 := Hi (O2.out.set 0 (.bool false))
   have O1 := Hi (O1.out.set_other ⟨d + 2, 0, none⟩ (.bool false) (by simp))
   have OB := Hi (OB.out.set_other ⟨d + 2, 0, none⟩ (.bool false) (by simp; omega))
   have CH := Hi (CH.out.set ⟨d + 2, 0, none⟩ (.bool false) (Or.inr (by show w.heap.size ≤ d + 2; omega)))
   generalize World.setCell _ _ _ = wk3 at O1 O2 OB CH ⊢
   clear hc hf
   refine hK _ _ ?_
   clear hK K'
   try simp only [Act.put, zq1, zq2, zq3, zq4, zq5, zq6]
   refine wpAnyT_done (by kernel_rfl) ?_ _
   refine NoPanic.normal ?_
   have hr1 := (O1.out.cell 0).trans (show _ = some (.slice none 0 0) from rfl)
   have hr2 := (O2.out.cell 0).trans (show _ = some (.bool false) from rfl)
   have hr3 : wk3.cell? ⟨d + 1 + 1, 0, none⟩ = _ := hr2
   go_wp2_with fail
   refine bodyPost_ret (v := .tuple #[.slice none 0 0, .bool false]) ?_ rfl ⟨rfl, FIN.out _ CH.out OB.out, CH.out⟩
   exact results_2c Tryz.results95 _ _ (d + 1) (d + 1 + 1) _ _ rfl (by simp [go_sem, loadVar, hr1]) rfl (by simp [go_sem, loadVar, hr3])
theorem bout_any (B : Nat) (b : Bf) (w : World) (h : BufAt w B b) : Calls Tryz.prog 56 #[Y (some ⟨B, 0, none⟩)] w fun e w' =>
 e = .returned (.tuple #[b.out, .bool b.op]) ∧ BufAt w' B b.shut ∧ Chg (· = B) w w' := by
 have HL := Hi (bleave_any B b w h)
 clear h
 go_enter Tryz.func56, Tryz.ntmps56
 go_wp2_with ((go_at_call 95; (with_reducible refine (HL.out).mono ?_); rintro e w1 ⟨rfl, hB, hC⟩); have HB := Hi hB; have HC := Hi hC; clear hB hC)
 go_ret2
 exact ⟨rfl, HB.out, HC.out⟩
theorem bfree_any (B : Nat) (b : Bf) (l : Led) (w : World) (h : BufAt w B b) (hl : LedAt w b.L l) : Calls Tryz.prog 89 #[Y (some ⟨B, 0, none⟩)] w fun e w' =>
 e = .returned (.bool (b.op && (l.give b.d.length).2)) ∧ BufAt w' B b.shut ∧ LedAt w' b.L (if b.op = true then (l.give b.d.length).1 else l) ∧ Chg (fun k => k = B ∨ k = b.L) w w' := by
 have HL := Hi (bleave_any B b w h)
 have H := Hi h
 have HD := Hi hl
 cases ho : b.op with
 | true =>
   have HL := Hi (HL.out.mono (R' := fun e w' => e = .returned (.tuple #[.slice (some ⟨b.g, 0, none⟩) b.d.length b.d.length, .bool true]) ∧ BufAt w' B b.shut ∧ Chg (· = B) w w') fun e w' hh => by unfold Bf.out at hh; rw [ho] at hh; exact hh)
   have HG := Hi (fun w1 (hC : Chg (· = B) w w1) => give_any b.L l b.d.length w1 (HD.out.chg hC (fun e => H.out.nl e.symm)))
   obtain ⟨g, hg⟩ : ∃ g, b.g = g := ⟨_, rfl⟩
   obtain ⟨L, hL⟩ : ∃ L, b.L = L := ⟨_, rfl⟩
   have hC0 := Hi (fun w1 (hB : BufAt w1 B b.shut) => (show w1.cell? ⟨B, 0, none⟩ = some (Y (some ⟨L, 0, none⟩)) by rw [← hL]; exact hB.c0))
   have HN := Hi (show B ≠ L by rw [← hL]; exact h.nl)
   have HGL := Hi (show b.shut.g ≠ L by rw [← hL]; exact h.gl)
   obtain ⟨m, hm⟩ : ∃ m, b.d.length = m := ⟨_, rfl⟩
   rw [hg, hm] at HL
   rw [hL, hm] at HG
   rw [hL, hm, if_pos rfl]
   obtain ⟨gr, hgr⟩ : ∃ gr, (l.give m).2 = gr := ⟨_, rfl⟩
   rw [hgr] at HG ⊢
   clear h hl ho hg hL hm hgr
   go_enter Tryz.func89, Tryz.ntmps89
   go_wp2_with (first
    | ((with_reducible refine aE rfl ?_ ?_); rfl; intro _)
    | ((go_at_call 95; (with_reducible refine (HL.out).mono ?_); rintro e w1 ⟨rfl, hB, hC⟩); have HB := Hi hB; have HC := Hi hC; have c0 := hC0.out _ hB; clear hB hC)
    | ((go_at_call 143; (with_reducible refine (HG.out _ HC.out).mono ?_); rintro e w2 ⟨rfl, hL, hC2⟩); have HL2 := Hi hL; have HC2 := Hi hC2; clear hL hC2))
   go_ret
   exact ⟨rfl, HB.out.chg HC2.out HN.out HGL.out, HL2.out, (HC.out.mono (fun k _ hk => Or.inl hk)).trans (HC2.out.mono (fun k _ hk => Or.inr hk))⟩
 | false =>
   have HL := Hi (HL.out.mono (R' := fun e w' => e = .returned (.tuple #[.slice none 0 0, .bool false]) ∧ BufAt w' B b.shut ∧ Chg (· = B) w w') fun e w' hh => by unfold Bf.out at hh; rw [ho] at hh; exact hh)
   rw [if_neg (by decide), Bool.false_and]
   clear h hl ho
   go_enter Tryz.func89, Tryz.ntmps89
   go_wp2_with (first
    | ((with_reducible refine aE rfl ?_ ?_); rfl; intro _)
    | ((go_at_call 95; (with_reducible refine (HL.out).mono ?_); rintro e w1 ⟨rfl, hB, hC⟩); have HB := Hi hB; have HC := Hi hC; clear hB hC))
   go_ret
   exact ⟨rfl, HB.out, HD.out.chg HC.out (fun e => H.out.nl e.symm), HC.out.mono (fun k _ hk => Or.inl hk)⟩
theorem app1k {P : Program} {ops : Array Oper} {rest : List Oper} {o : Oper} {a : Act} {Q : Exit → Act → World → Prop} (hgd : o.guard = none) (s x : Operand) (t : TypeId)
 (ho : o.op = .call { callee := .builtin .append, args := #[s, x], argTypes := #[t, t] })
 (base : Nat) (e : TypeId) (z : Value) (bytes : Nat) (ht : P.underlying t = some (.slice e)) (hi : (P.info? e).map (fun i => (i.zero, i.size, i.bytes)) = some (some z, 1, bytes)) (hz1 : z.cells.size = 1)
 (v : Value) (n : Nat) (xs : List Value) (hs : a.eval s = v) {wr : World} (hown : wr.ownsRow base e 1 v n xs) (X : Value) (hX : X.oneCell' = true) (T : TypeId)
 (hx : a.eval x = .slice (some ⟨wr.heap.size, 0, none⟩) 1 1) (hn : (n + 1) * bytes ≤ 140737488355328) (hn2 : n + 1 ≤ maxLen) (hbase : base ≤ wr.heap.size)
 (h : ∀ v' w', w'.ownsRow base e 1 v' (n + 1) (xs ++ [X]) → Chg (fun k => v.ownBlock = some k) wr w' → (∀ g, v'.ownBlock = some g → v.ownBlock = some g ∨ wr.heap.size ≤ g) → base ≤ w'.heap.size → wpList P ops Q rest (a.put o.dst v') w') :
 wpList P ops Q (o :: rest) a (wr.alloc (.cells #[X] T)) := by
 obtain ⟨i, i1, i2, i3, i4⟩ := info_parts hi
 have hz : wr.heap.size < (wr.alloc (.cells #[X] T)).heap.size := by simp
 refine wpList_append_lies (w := wr.alloc (.cells #[X] T)) hgd s x t ho base e i z 1 bytes ht i1 i2 i3 i4 hz1 (by decide) v n xs hs (hown.alloc _) ⟨wr.heap.size, 0, none⟩ 1 1 [X] hx rfl ?_ ?_ (by decide) hn2 hn (by omega) _ rfl ?_
 · intro j u hj
   match j, hj with
   | 0, hj => simp at hj; subst hj; simp [Addr.add, go_sem]
 · intro u hu; simp at hu; subst hu; exact hX
 · intro g cap w' hown' hgrow hat hlt
   have hc : Chg (fun k => v.ownBlock = some k) wr w' :=
    ((Chg.refl _ wr).alloc (.cells #[X] T)).trans ⟨hgrow.os, hgrow.tape, hgrow.output, hgrow.size, fun k hk hn => hgrow.block k hk (fun e => hn e.symm)⟩
   refine h _ w' hown' hc ?_ (Nat.le_trans hbase hc.size)
   intro g' hg'
   have : g = g' := by simpa [Value.ownBlock] using hg'
   subst this
   rcases hat with hat | hat
   · exact Or.inl hat
   · exact Or.inr (by rw [hat]; simp)
theorem owns_blk {w : World} {base e size n : Nat} {v : Value} {xs : List Value} (h : w.ownsRow base e size v n xs) {g : Nat} (hg : v.ownBlock = some g) : base ≤ g ∧ g < w.heap.size := by
 obtain ⟨h1, h2⟩ := h
 rcases h2 with ⟨rfl, _⟩ | ⟨g', cap, cur, rfl, hb, hg', _⟩
 · simp [Value.ownBlock] at hg
 · have : g' = g := by simpa [Value.ownBlock] using hg
   subst this
   exact ⟨hb, (Array.getElem?_eq_some_iff.1 hg').1⟩
theorem Chg.after {S S' : Nat → Prop} {a b c : World} (h : Chg S a b) (k : Chg S' b c) (hS : ∀ n, n < a.heap.size → S' n → S n) : Chg S a c :=
 ⟨k.os.trans h.os, k.tape.trans h.tape, k.output.trans h.output, Nat.le_trans h.size k.size, fun n hn hs => (k.block n (Nat.lt_of_lt_of_le hn h.size) (fun h' => hs (hS n hn h'))).trans (h.block n hn hs)⟩
theorem load_r {P : Program} {ops : Array Oper} {rest : List Oper} {op : Oper} {a : Act} {w : World} {Q : Exit → Act → World → Prop} (hgd : op.guard = none) (ty : TypeId) (x : Operand) (ho : op.op = .load ty x)
 (b o : Nat) (YS : List Value) (hx : a.eval x = Y (some ⟨b, o, none⟩)) (hR : w.rangeAt b o YS) {d : TypeDesc} (hu : P.underlying ty = some d) (hd : d.isRow = true) (hi : (P.info? ty).map (·.size) = some YS.length)
 (h : Unit → wpList P ops Q rest (a.put op.dst (.agg YS.toArray)) w) : wpList P ops Q (op :: rest) a w := wpList_load_mid hgd ty x ho b o hx YS d hR hu hd hi (h ())
theorem range_below {w w' : World} {B b o : Nat} {L : List Value} (h : w.rangeAt b o L) (hb : Below B w w') (hlt : b < B) : w'.rangeAt b o L := fun j v hv => (World.cell?_of_block (w := w) (hb.block b hlt)).trans (h j v hv)
def isN (v : Int) : Bool := decide (0 ≤ v) && decide (v ≤ 4611686018427387904)
theorem is_any (L : List Int) (n B cap : Nat) (w : World) (hn : n = L.length) (h9 : n ≤ 100) (hR : w.rangeAt B 0 (L.map (.int .i64))) : Calls Tryz.prog 162 #[.slice (some ⟨B, 0, none⟩) n cap] w fun e w' => e = .returned (.bool (L.all isN)) ∧ w' = w := by
 obtain ⟨R, hRR⟩ : ∃ R, L.all isN = R := ⟨_, rfl⟩
 have HRR := Hi hRR
 have HR := Hi hR
 have HN := Hi hn
 rw [hRR]
 clear hRR hR hn
 go_enter Tryz.func162, Tryz.ntmps162
 go_wp2
 go_loop [4, 7] (fun _ c => ∃ i : Nat, i ≤ n ∧ c = J I i ∧ (L.drop i).all isN = R) (fun _ c => n - (intOf c).toNat)
 case atStart => exact ⟨0, by omega, rfl, HRR.out⟩
 case round =>
  obtain ⟨i, hi, rfl, hf⟩ := hrel
  by_cases hlt : i < n
  rotate_left
  · have hge : n ≤ i := by omega
    have HF := Hi (show R = true by rw [← hf, List.drop_of_length_le (by rw [← HN.out]; exact hge)]; rfl)
    clear hf
    go_wp2
    go_ret
    exact ⟨by rw [HF.out]; rfl, rfl⟩
  · have hlt2 : i < L.length := by rw [← HN.out]; exact hlt
    obtain ⟨v, hv⟩ : ∃ v, L[i] = v := ⟨_, rfl⟩
    have hd : L.drop i = v :: L.drop (i + 1) := by rw [List.drop_eq_getElem_cons hlt2, hv]
    have c0 : w.cell? ⟨B, i, none⟩ = some (J I v) := by have := HR.out i (J I v) (by rw [List.getElem?_map, List.getElem?_eq_getElem hlt2, hv]; rfl); rwa [Nat.zero_add] at this
    rw [hd, List.all_cons] at hf
    have hge : ¬ n ≤ i := by omega
    have HF := Hi hf
    clear hd hv hf
    by_cases h1 : v < 0
    · have D1 : decide (v < 0) = true := decide_eq_true h1
      have E := Hi (show R = false by rw [← HF.out, show isN v = false by unfold isN; rw [decide_eq_false (by omega)]; rfl]; rfl)
      clear h1
      go_wp2_with ((with_reducible refine aE rfl ?_ ?_); rfl; intro _)
      go_ret
      exact ⟨by rw [E.out]; rfl, rfl⟩
    · have D1 : decide (v < 0) = false := decide_eq_false h1
      by_cases h2 : v > 4611686018427387904
      · have D2 : decide (v > 4611686018427387904) = true := decide_eq_true h2
        have E := Hi (show R = false by rw [← HF.out, show isN v = false by unfold isN; rw [decide_eq_false (show ¬ v ≤ 4611686018427387904 by omega)]; simp]; rfl)
        clear h1 h2
        go_wp2_with ((with_reducible refine aE rfl ?_ ?_); rfl; intro _)
        go_ret
        exact ⟨by rw [E.out]; rfl, rfl⟩
      · have D2 : decide (v > 4611686018427387904) = false := decide_eq_false h2
        have E := Hi (show (L.drop (i + 1)).all isN = R by rw [← HF.out, show isN v = true by unfold isN; rw [decide_eq_true (by omega), decide_eq_true (by omega)]; rfl]; rfl)
        clear h1 h2
        go_wp2_with ((with_reducible refine aE rfl ?_ ?_); rfl; intro _)
        go_round
        case rel => exact ⟨i + 1, by omega, by go_num, E.out⟩
        case measure => simp [intOf]; omega
theorem mul64_any (x y : Nat) (hx : x < 18446744073709551616) (hy : y < 18446744073709551616) (w : World) :
 Calls Tryz.prog 163 #[.int .u64 x, .int .u64 y] w fun e w' => e = .returned (.tuple #[.int .u64 ((x * y / 18446744073709551616 : Nat) : Int), .int .u64 ((x * y % 18446744073709551616 : Nat) : Int)]) ∧ w' = w := by
 obtain ⟨bd, bt, bw, hhi⟩ := Lib.mul64_hi x y hx hy
 have ba := Lib.half_mul_le (a := x / 4294967296) (b := y / 4294967296) (by omega) (by omega)
 have bb := Lib.half_mul_le (a := x / 4294967296) (b := y % 4294967296) (by omega) (by omega)
 have bc := Lib.half_mul_le (a := x % 4294967296) (b := y / 4294967296) (by omega) (by omega)
 have ba' : x / 4294967296 * (y / 4294967296) < 18446744073709551616 := by omega
 have bb' : x / 4294967296 * (y % 4294967296) < 18446744073709551616 := by omega
 have bc' : x % 4294967296 * (y / 4294967296) < 18446744073709551616 := by omega
 have bh1 : x / 4294967296 * (y / 4294967296) + (x / 4294967296 * (y % 4294967296) + x % 4294967296 * (y % 4294967296) / 4294967296) / 4294967296 < 18446744073709551616 := by omega
 have bh : x / 4294967296 * (y / 4294967296) + (x / 4294967296 * (y % 4294967296) + x % 4294967296 * (y % 4294967296) / 4294967296) / 4294967296 + ((x / 4294967296 * (y % 4294967296) + x % 4294967296 * (y % 4294967296) / 4294967296) % 4294967296 + x % 4294967296 * (y / 4294967296)) / 4294967296 < 18446744073709551616 := by omega
 go_enter Tryz.func163, Tryz.ntmps163
 go_wp2
 simp only [Mul64.maskN x hx, Mul64.maskN y hy, Mul64.divN, Mul64.mulN, Mul64.addN, Mul64.wrapN _ bd, Mul64.wrapN _ bb', Mul64.wrapN _ bt, Mul64.maskN _ bt, Mul64.wrapN _ bc', Mul64.wrapN _ bw, Mul64.wrapN _ ba', Mul64.wrapN _ bh1, Mul64.wrapN _ bh, Mul64.wrapM (x * y)]
 rw [hhi]
 go_ret2
 exact ⟨rfl, rfl⟩
def aC (s : ByteArray) (a : Nat) : Nat → Int
 | 0 => 0
 | k + 1 => aC s a k + aG s (a + k) * 2 ^ (8 * k)
theorem ah (s : ByteArray) (a k : Nat) : 0 ≤ aC s a k ∧ aC s a k < 2 ^ (8 * k) := by
 induction k with
 | zero => simp [aC]
 | succ k ih =>
   have hb := aS s (a + k)
   have hp := pow_pos' (8 * k)
   have h0 : 0 ≤ aG s (a + k) * 2 ^ (8 * k) := Int.mul_nonneg hb.1 (by omega)
   have h1 : aG s (a + k) * 2 ^ (8 * k) ≤ 255 * 2 ^ (8 * k) := Int.mul_le_mul_of_nonneg_right (by omega) (by omega)
   rw [pow8, aC]; omega
theorem lowK_lo (s : ByteArray) (a b k : Nat) (h : a + k ≤ b) (hb : b ≤ s.size) : loK (s.extract a b) k = aC s a k := by
 induction k with
 | zero => rfl
 | succ k ih => rw [loK, aC, ih (by omega), byN_ext s a b k (by omega) hb]
def aU (n : Int) : Bool := n == 12 || (n == 40 || (n == 52 || (n == 56 || (n == 108 || n == 124))))
def knownH (n : Int) : Bool := aU n || (n == 16 || n == 64)
def dpB (n : Int) (more : Bool) : Bool := (n == 1 || (n == 4 || (n == 8 || n == 24))) || ((n == 16 || n == 32) && more)
def fitsB (m n : Int) : Bool := if m = 1 then n == 8 else if m = 2 then n == 4 else if m = 3 then n == 16 || n == 32 else true
def mostI (n : Int) : Int := if n ≤ 8 then 2 ^ n.toNat else 256
theorem eqf {a b : Int} (h : ¬ a = b) : (a == b) = false := by simpa using h
theorem heads_any (n : Int) (w : World) : Calls Tryz.prog 99 #[J I n] w fun e w' => e = .returned (.bool (aU n)) ∧ w' = w := by
 by_cases h1 : n = 12
 · subst h1
   go_enter Tryz.func99, Tryz.ntmps99
   go_wp2; go_ret; exact ⟨rfl, rfl⟩
 by_cases h2 : n = 40
 · subst h2
   go_enter Tryz.func99, Tryz.ntmps99
   go_wp2; go_ret; exact ⟨rfl, rfl⟩
 by_cases h3 : n = 52
 · subst h3
   go_enter Tryz.func99, Tryz.ntmps99
   go_wp2; go_ret; exact ⟨rfl, rfl⟩
 by_cases h4 : n = 56
 · subst h4
   go_enter Tryz.func99, Tryz.ntmps99
   go_wp2; go_ret; exact ⟨rfl, rfl⟩
 by_cases h5 : n = 108
 · subst h5
   go_enter Tryz.func99, Tryz.ntmps99
   go_wp2; go_ret; exact ⟨rfl, rfl⟩
 by_cases h6 : n = 124
 · subst h6
   go_enter Tryz.func99, Tryz.ntmps99
   go_wp2; go_ret; exact ⟨rfl, rfl⟩
 have e1 := eqf h1
 have e2 := eqf h2
 have e3 := eqf h3
 have e4 := eqf h4
 have e5 := eqf h5
 have e6 := eqf h6
 have E := Hi (show aU n = false by unfold aU; rw [e1, e2, e3, e4, e5, e6]; rfl)
 clear h1 h2 h3 h4 h5 h6
 go_enter Tryz.func99, Tryz.ntmps99
 go_wp2
 go_ret
 exact ⟨ret_b E.out.symm, rfl⟩
theorem known_any (n : Int) (w : World) : Calls Tryz.prog 98 #[J I n] w fun e w' => e = .returned (.bool (knownH n)) ∧ w' = w := by
 have HH := Hi (fun w0 => heads_any n w0)
 obtain ⟨b, hb⟩ : ∃ b, aU n = b := ⟨_, rfl⟩
 obtain ⟨b1, hb1⟩ : ∃ b, (n == 16) = b := ⟨_, rfl⟩
 obtain ⟨b2, hb2⟩ : ∃ b, (n == 64) = b := ⟨_, rfl⟩
 have E := Hi (show knownH n = (b || (b1 || b2)) by unfold knownH; rw [hb, hb1, hb2])
 rw [hb] at HH
 clear hb
 go_enter Tryz.func98, Tryz.ntmps98
 cases b <;> cases b1
 all_goals go_wp2_with (first | ((with_reducible refine aE rfl ?_ ?_); rfl; intro _) | (go_at_call 99; (with_reducible refine (HH.out _).mono ?_); rintro e w1 ⟨rfl, rfl⟩))
 all_goals (go_ret; exact ⟨ret_b (by rw [E.out]; simp), rfl⟩)
theorem hdepth_any (n : Int) (more : Bool) (w : World) : Calls Tryz.prog 102 #[J I n, .bool more] w fun e w' => e = .returned (.bool (dpB n more)) ∧ w' = w := by
 by_cases h1 : n = 1
 · subst h1
   go_enter Tryz.func102, Tryz.ntmps102
   go_wp2; go_ret; exact ⟨rfl, rfl⟩
 by_cases h2 : n = 4
 · subst h2
   go_enter Tryz.func102, Tryz.ntmps102
   go_wp2; go_ret; exact ⟨rfl, rfl⟩
 by_cases h3 : n = 8
 · subst h3
   go_enter Tryz.func102, Tryz.ntmps102
   go_wp2; go_ret; exact ⟨rfl, rfl⟩
 by_cases h4 : n = 24
 · subst h4
   go_enter Tryz.func102, Tryz.ntmps102
   go_wp2; go_ret; exact ⟨rfl, rfl⟩
 by_cases h5 : n = 16
 · subst h5
   go_enter Tryz.func102, Tryz.ntmps102
   go_wp2; go_ret; exact ⟨by cases more <;> rfl, rfl⟩
 by_cases h6 : n = 32
 · subst h6
   go_enter Tryz.func102, Tryz.ntmps102
   go_wp2; go_ret; exact ⟨by cases more <;> rfl, rfl⟩
 have e1 := eqf h1
 have e2 := eqf h2
 have e3 := eqf h3
 have e4 := eqf h4
 have e5 := eqf h5
 have e6 := eqf h6
 have E := Hi (show dpB n more = false by unfold dpB; rw [e1, e2, e3, e4, e5, e6]; rfl)
 clear h1 h2 h3 h4 h5 h6
 go_enter Tryz.func102, Tryz.ntmps102
 go_wp2
 go_ret
 exact ⟨ret_b E.out.symm, rfl⟩
theorem rdepth_any (n : Int) (w : World) : Calls Tryz.prog 53 #[J I n] w fun e w' => e = .returned (.bool (dpB n true)) ∧ w' = w := by
 by_cases h1 : n = 1
 · subst h1
   go_enter Tryz.func53, Tryz.ntmps53
   go_wp2; go_ret; exact ⟨rfl, rfl⟩
 by_cases h2 : n = 4
 · subst h2
   go_enter Tryz.func53, Tryz.ntmps53
   go_wp2; go_ret; exact ⟨rfl, rfl⟩
 by_cases h3 : n = 8
 · subst h3
   go_enter Tryz.func53, Tryz.ntmps53
   go_wp2; go_ret; exact ⟨rfl, rfl⟩
 by_cases h4 : n = 16
 · subst h4
   go_enter Tryz.func53, Tryz.ntmps53
   go_wp2; go_ret; exact ⟨rfl, rfl⟩
 by_cases h5 : n = 24
 · subst h5
   go_enter Tryz.func53, Tryz.ntmps53
   go_wp2; go_ret; exact ⟨rfl, rfl⟩
 have e1 := eqf h1
 have e2 := eqf h2
 have e3 := eqf h3
 have e4 := eqf h4
 have e5 := eqf h5
 obtain ⟨b6, e6⟩ : ∃ b, (n == 32) = b := ⟨_, rfl⟩
 have E := Hi (show dpB n true = b6 by unfold dpB; rw [e1, e2, e3, e4, e5, e6]; simp)
 clear h1 h2 h3 h4 h5
 go_enter Tryz.func53, Tryz.ntmps53
 go_wp2_with ((with_reducible refine aE rfl ?_ ?_); rfl; intro _)
 go_ret
 exact ⟨ret_b E.out.symm, rfl⟩
theorem fits_any (m n : Int) (w : World) : Calls Tryz.prog 103 #[J I m, J I n] w fun e w' => e = .returned (.bool (fitsB m n)) ∧ w' = w := by
 by_cases h1 : m = 1
 · subst h1
   go_enter Tryz.func103, Tryz.ntmps103
   go_wp2; go_ret; exact ⟨rfl, rfl⟩
 by_cases h2 : m = 2
 · subst h2
   go_enter Tryz.func103, Tryz.ntmps103
   go_wp2; go_ret; exact ⟨rfl, rfl⟩
 by_cases h3 : m = 3
 · subst h3
   obtain ⟨b, hb⟩ : ∃ b, (n == 16) = b := ⟨_, rfl⟩
   have E := Hi (show fitsB 3 n = (b || (n == 32)) by unfold fitsB; rw [if_neg (by decide), if_neg (by decide), if_pos rfl, hb])
   go_enter Tryz.func103, Tryz.ntmps103
   cases b
   all_goals go_wp2_with ((with_reducible refine aE rfl ?_ ?_); rfl; intro _)
   all_goals (go_ret; exact ⟨ret_b (by rw [E.out]; simp), rfl⟩)
 have e1 := eqf h1
 have e2 := eqf h2
 have e3 := eqf h3
 have E := Hi (show fitsB m n = true by unfold fitsB; rw [if_neg h1, if_neg h2, if_neg h3])
 clear h1 h2 h3
 go_enter Tryz.func103, Tryz.ntmps103
 go_wp2
 go_ret
 exact ⟨ret_b E.out.symm, rfl⟩
theorem most_any (n : Int) (w : World) (h0 : 0 ≤ n) : Calls Tryz.prog 104 #[J I n] w fun e w' => e = .returned (J I (mostI n)) ∧ w' = w := by
 by_cases h : n ≤ 8
 · have E := Hi (show mostI n = 2 ^ n.toNat by unfold mostI; rw [if_pos h])
   have hp := pow_pos' n.toNat
   have hl := pow_le' (show n.toNat ≤ 8 by omega)
   have h8 : (2 : Int) ^ 8 = 256 := by decide
   rw [h8] at hl
   clear h8
   go_enter Tryz.func104, Tryz.ntmps104
   go_wp2
   go_ret
   exact ⟨ret_i (by rw [E.out]), rfl⟩
 · have E := Hi (show mostI n = 256 by unfold mostI; rw [if_neg h])
   go_enter Tryz.func104, Tryz.ntmps104
   go_wp2
   go_ret
   exact ⟨ret_i E.out.symm, rfl⟩
theorem u32_wraps (n : Int) (h₀ : 0 ≤ n) (h₁ : n < 2 ^ 32) : IntKind.u32.wrap n = n := by
 have : IntKind.u32.wrap n = n % 4294967296 := rfl
 rw [this]; omega
theorem or_low32 (i : Nat) (v y : Int) (h0 : 0 ≤ v) (h1 : v < 2 ^ i) (hy : 0 ≤ y) (h2 : v + y * 2 ^ i < 2 ^ 32) : bits .or .u32 v (y * 2 ^ i) = v + y * 2 ^ i := by
 have hp := pow_pos' i
 have hm := Int.mul_nonneg hy (Int.le_of_lt hp)
 exact bits_join_low .u32 32 (by decide) u32_wraps i v _ h0 h1 (by omega) hm (Int.mul_emod_left _ _) (by omega)
theorem lowK_round32 (s : ByteArray) (a k : Nat) (h : k ≤ 3) : bits .or .u32 (aC s a k) (aG s (a + k) % 4294967296 * 2 ^ (8 * k) % 4294967296) = aC s a (k + 1) := by
 have hb := aS s (a + k)
 have hl := ah s a k
 have hl1 := ah s a (k + 1)
 have hp := pow32 k h
 have h0 : 0 ≤ aG s (a + k) * 2 ^ (8 * k) := Int.mul_nonneg hb.1 (by omega)
 have h1 : aG s (a + k) * 2 ^ (8 * k) ≤ 255 * 2 ^ (8 * k) := Int.mul_le_mul_of_nonneg_right (by omega) (by omega)
 have h32 : (2 : Int) ^ 32 = 4294967296 := by decide
 have h3 := pow_le' (show 8 * (k + 1) ≤ 32 by omega)
 have e : aC s a (k + 1) = aC s a k + aG s (a + k) * 2 ^ (8 * k) := rfl
 rw [Int.emod_eq_of_lt hb.1 (by omega), Int.emod_eq_of_lt h0 (by omega), or_low32 (8 * k) _ _ hl.1 hl.2 hb.1 (by omega)]
 rfl
theorem hlow_any (s : ByteArray) (a n : Nat) (w : World) (hn : n ≤ 4) (h : a + n ≤ s.size) (hs : s.size ≤ 9223372036854775807) : Calls Tryz.prog 97 #[.string s, J I a, J I n] w fun e w' => e = .returned (J I (aC s a n)) ∧ w' = w := by
 go_enter Tryz.func97, Tryz.ntmps97
 go_wp2
 go_loop [7, 8, 10] (fun v j i => ∃ k : Nat, k ≤ n ∧ i = J I k ∧ v = .int .u32 (aC s a k)) (fun _ _ i => n - (intOf i).toNat)
 case atStart => exact ⟨0, by omega, rfl, rfl⟩
 case round =>
  obtain ⟨k, hk, rfl, rfl⟩ := hrel
  by_cases hlt : k < n
  · have i3 : ((a : Int) + k).toNat = a + k := by omega
    have i4 : (0 : Int) ≤ (a : Int) + k := by omega
    have i5 : (a : Int) + k < s.size := by omega
    have i6 : a + k < s.size := by omega
    go_wp2
    go_round
    case rel => exact ⟨k + 1, by omega, by go_num, by rw [aX s (a + k) i6, lowK_round32 s a k (by omega)]⟩
    case measure => simp [intOf]; omega
  · have E := Hi (show aC s a k = aC s a n by rw [show k = n by omega])
    have hge : n ≤ k := by omega
    have hl := ah s a k
    have hp := pow_le' (show 8 * k ≤ 32 by omega)
    have h32 : (2 : Int) ^ 32 = 4294967296 := by decide
    have hb : aC s a k < 4294967296 := by omega
    have hb0 := hl.1
    clear hl hp h32
    go_wp2
    go_ret
    exact ⟨ret_i E.out, rfl⟩
theorem signed_wrap32 (v : Int) (h0 : 0 ≤ v) (h1 : v < 4294967296) : wrap32 v = ab v := by
 unfold wrap32 ab; split <;> omega
theorem hlow32_any (s : ByteArray) (a n : Nat) (w : World) (hn : n = 4) (h : a + n ≤ s.size) (hs : s.size ≤ 9223372036854775807) : Calls Tryz.prog 100 #[.string s, J I a, J I n] w fun e w' => e = .returned (.int .i32 (ab (aC s a 4))) ∧ w' = w := by
 have hn4 : n ≤ 4 := by omega
 subst hn
 go_enter Tryz.func100, Tryz.ntmps100
 go_wp2
 go_loop [7, 8, 10] (fun v j i => ∃ k : Nat, k ≤ 4 ∧ i = J I k ∧ v = .int .u32 (aC s a k)) (fun _ _ i => 4 - (intOf i).toNat)
 case atStart => exact ⟨0, by omega, rfl, rfl⟩
 case round =>
  obtain ⟨k, hk, rfl, rfl⟩ := hrel
  by_cases hlt : k < 4
  · have i3 : ((a : Int) + k).toNat = a + k := by omega
    have i4 : (0 : Int) ≤ (a : Int) + k := by omega
    have i5 : (a : Int) + k < s.size := by omega
    have i6 : a + k < s.size := by omega
    go_wp2
    go_round
    case rel => exact ⟨k + 1, by omega, by go_num, by rw [aX s (a + k) i6, lowK_round32 s a k (by omega)]⟩
    case measure => simp [intOf]; omega
  · have E := Hi (show wrap32 (aC s a k) = ab (aC s a 4) by rw [show k = 4 by omega]; exact signed_wrap32 _ (by have := ah s a 4; omega) (by have := ah s a 4; omega))
    have hge : 4 ≤ k := by omega
    have hl := ah s a k
    have hp := pow_le' (show 8 * k ≤ 32 by omega)
    have h32 : (2 : Int) ^ 32 = 4294967296 := by decide
    have hb : aC s a k < 4294967296 := by omega
    have hb0 := hl.1
    clear hl hp h32
    go_wp2
    go_ret
    trace_state
    exact ⟨by rw [E.out]; rfl, rfl⟩
abbrev Fnd := Bool × Int × Int
def fndC (r : Fnd) : List Value := [.bool r.1, J I r.2.1, J I r.2.2]
def fndL : List Fnd → List Value
 | [] => []
 | r :: t => fndC r ++ fndL t
theorem fndL_app (A B : List Fnd) : fndL (A ++ B) = fndL A ++ fndL B := by
 induction A with
 | nil => rfl
 | cons r t ih => simp only [List.cons_append, fndL, ih, List.append_assoc]
theorem fndL_get (L : List Fnd) (i j : Nat) (r : Fnd) (h : L[i]? = some r) (hj : j < 3) : (fndL L)[i * 3 + j]? = (fndC r)[j]? := by
 induction L generalizing i with
 | nil => simp at h
 | cons q t ih =>
   cases i with
   | zero => simp at h; subst h; rw [Nat.zero_mul, Nat.zero_add, fndL, List.getElem?_append_left (by simp only [fndC, List.length_cons, List.length_nil]; omega)]
   | succ i => rw [show (i + 1) * 3 + j = 3 + (i * 3 + j) by omega, fndL, List.getElem?_append_right (by simp only [fndC, List.length_cons, List.length_nil]; omega)]
               rw [show (3 + (i * 3 + j) - (fndC q).length) = i * 3 + j by simp [fndC]]
               exact ih i (by simpa using h)
def aO : List Fnd → Fnd × Bool
 | [] => ((false, 0, 0), false)
 | r :: t => if r.1 = true then (r, true) else aO t
def FirstPost (w : World) (R : Fnd × Bool) (e : Ending) (w' : World) : Prop := e = .returned (.tuple #[.agg (List.toArray (fndC R.1)), .bool R.2]) ∧ Below w.heap.size w w'
theorem first_any (L : List Fnd) (n B cap : Nat) (w : World) (hn : n = L.length) (h99 : n ≤ 100) (hB : B < w.heap.size) (hR : w.rangeAt B 0 (fndL L)) : Calls Tryz.prog 62 #[.slice (some ⟨B, 0, none⟩) n cap] w (FirstPost w (aO L)) := by
 unfold FirstPost
 have HR := Hi hR
 have HN := Hi hn
 have O2 := Hi (aA w #[.bool false, J I 0, J I 0] 134)
 have BL := Hi ((Below.refl w.heap.size w).alloc (Nat.le_refl _) (.cells #[.bool false, J I 0, J I 0] 134))
 obtain ⟨RS, hRS⟩ : ∃ r, aO L = r := ⟨_, rfl⟩
 have HRS := Hi hRS
 rw [hRS]
 clear hR hRS hn
 go_enter Tryz.func62, Tryz.ntmps62
 go_upto_region 1 with (fail)
 generalize World.alloc _ _ = w1 at O2 BL ⊢
 have hz1 : w.heap.size < w1.heap.size := O2.out.lt
 go_wp2_with fail
 go_loopw [5, 8] (fun q5 c wr => ∃ i : Nat, i ≤ n ∧ c = J I i ∧ aO (L.drop i) = RS ∧ Obj1 wr w.heap.size #[.bool false, J I 0, J I 0] 134 ∧ Below w.heap.size w wr) (fun _ c _ => n - (intOf c).toNat)
 case atStart => exact ⟨0, by omega, rfl, HRS.out, O2.out, BL.out⟩
 case round =>
  obtain ⟨i, hi, rfl, hf, hO, hb⟩ := hrel
  have O2 := Hi hO
  have BL := Hi hb
  have hzr : w.heap.size < wr.heap.size := hO.lt
  clear hO hb
  have f0 : wr.frozen? ⟨w.heap.size, 0, none⟩ = false := O2.out.frozen 0
  have f1 : wr.frozen? ⟨w.heap.size, 1, none⟩ = false := O2.out.frozen 1
  have f2 : wr.frozen? ⟨w.heap.size, 2, none⟩ = false := O2.out.frozen 2
  have k0 : wr.cell? ⟨w.heap.size, 0, none⟩ = some (.bool false) := (O2.out.cell 0).trans rfl
  have k1 : wr.cell? ⟨w.heap.size, 1, none⟩ = some (J I 0) := (O2.out.cell 1).trans rfl
  have k2 : wr.cell? ⟨w.heap.size, 2, none⟩ = some (J I 0) := (O2.out.cell 2).trans rfl
  by_cases hlt : i < n
  rotate_left
  · have hge : n ≤ i := by omega
    have hRS : RS = ((false, 0, 0), false) := by rw [← hf, List.drop_of_length_le (by rw [← HN.out]; exact hge)]; rfl
    have HRS := Hi hRS
    clear hf hRS
    go_wp2_with (refine so 134 3 w.heap.size [.bool false, J I 0, J I 0] O2.out ?_; intro ws hst hO; have O2 := Hi hO; have BL := Hi (hst.below BL.out (by omega)); clear hst hO)
    refine bodyPost_ret (v := .tuple #[.agg (List.toArray [.bool false, J I 0, J I 0]), .bool false]) ?_ rfl ⟨by rw [HRS.out]; rfl, BL.out⟩
    exact ag Tryz.results62 _ _ _ [.bool false, J I 0, J I 0] _ rfl O2.out.range0 Tryz.underlying134 rfl (by kernel_rfl)
  · have hlt2 : i < L.length := by rw [← HN.out]; exact hlt
    obtain ⟨⟨wr0, kd, at0⟩, hrow⟩ : ∃ r, L[i] = r := ⟨_, rfl⟩
    have hr : L[i]? = some (wr0, kd, at0) := by rw [List.getElem?_eq_getElem hlt2, hrow]
    have hd : L.drop i = (wr0, kd, at0) :: L.drop (i + 1) := by rw [List.drop_eq_getElem_cons hlt2, hrow]
    rw [hd, aO] at hf
    have g0 := fndL_get L i 0 _ hr (by omega)
    have g1 := fndL_get L i 1 _ hr (by omega)
    have g2 := fndL_get L i 2 _ hr (by omega)
    have hRr := range_below HR.out BL.out hB
    have c0 : wr.cell? ⟨B, i * 3, none⟩ = some (.bool wr0) := by have := hRr (i * 3) _ (by rw [← Nat.add_zero (i * 3)]; exact g0); rwa [Nat.zero_add] at this
    have c1 : wr.cell? ⟨B, i * 3 + 1, none⟩ = some (J I kd) := by have := hRr (i * 3 + 1) _ g1; rwa [Nat.zero_add] at this
    have c2 : wr.cell? ⟨B, i * 3 + 2, none⟩ = some (J I at0) := by have := hRr (i * 3 + 2) _ g2; rwa [Nat.zero_add] at this
    clear hrow hr hd g0 g1 g2 hRr
    cases wr0
    · have HF := Hi (show aO (L.drop (i + 1)) = RS from hf)
      clear hf
      go_wp2_with fail
      go_roundw
      case rel => exact ⟨i + 1, by omega, by go_num, HF.out, O2.out.alloc _, BL.out.alloc BL.out.size _⟩
      case measure => simp [intOf]; omega
    · have HF := Hi (show ((true, kd, at0), true) = RS from hf)
      clear hf
      have O2 := Hi (O2.out.alloc (.cells #[.bool true, J I kd, J I at0] 134))
      have BL := Hi (BL.out.alloc BL.out.size (.cells #[.bool true, J I kd, J I at0] 134))
      go_wp2_with (refine so 134 3 w.heap.size [.bool true, J I kd, J I at0] O2.out ?_; intro ws hst hO; have O2 := Hi hO; have BL := Hi (hst.below BL.out (by omega)); clear hst hO)
      refine bodyPost_ret (v := .tuple #[.agg (List.toArray [.bool true, J I kd, J I at0]), .bool true]) ?_ rfl ⟨by rw [← HF.out]; rfl, BL.out⟩
      exact ag Tryz.results62 _ _ _ [.bool true, J I kd, J I at0] _ rfl O2.out.range0 Tryz.underlying134 rfl (by kernel_rfl)
def sidesF (W H a b : Int) : List Fnd := [(decide (W ≤ 0), 2, a), (decide (W > 16384), 3, a), (H == 0, 2, b), (decide (H > 16384) || decide (H < -16384), 3, b)]
theorem sides_any (W H a b : Int) (w : World) : Calls Tryz.prog 101 #[J I W, J I H, J I a, J I b] w fun e w' => e = .returned (.slice (some ⟨w.heap.size, 0, none⟩) 4 4) ∧ Obj1 w' w.heap.size (List.toArray (fndL (sidesF W H a b))) 134 ∧ Below w.heap.size w w' := by
 have O2 := Hi (aA w (List.toArray (fndL (sidesF W H a b))) 134)
 have BL := Hi ((Below.refl w.heap.size w).alloc (Nat.le_refl _) (.cells (List.toArray (fndL (sidesF W H a b))) 134))
 obtain ⟨b1, hb1⟩ : ∃ x, decide (W ≤ 0) = x := ⟨_, rfl⟩
 obtain ⟨b2, hb2⟩ : ∃ x, decide (W > 16384) = x := ⟨_, rfl⟩
 obtain ⟨b3, hb3⟩ : ∃ x, (H == 0) = x := ⟨_, rfl⟩
 obtain ⟨b4, hb4⟩ : ∃ x, decide (H > 16384) = x := ⟨_, rfl⟩
 obtain ⟨b5, hb5⟩ : ∃ x, decide (H < -16384) = x := ⟨_, rfl⟩
 have E := Hi (show fndL (sidesF W H a b) = [.bool b1, J I 2, J I a, .bool b2, J I 3, J I a, .bool b3, J I 2, J I b, .bool (b4 || b5), J I 3, J I b] by unfold sidesF; rw [hb1, hb2, hb3, hb4, hb5]; rfl)
 rw [E.out] at O2 BL ⊢
 go_enter Tryz.func101, Tryz.ntmps101
 cases b4
 all_goals go_wp2_with ((with_reducible refine aE rfl ?_ ?_); rfl; intro _)
 all_goals (go_ret; exact ⟨rfl, O2.out, BL.out⟩)
end Go.Proofs.YtfchnibjjokmbaaGreat
namespace Go
section
variable {P : Program} {ops : Array Oper} {Q : Exit → Act → World → Prop} {md : Region.Mode} {S : World → Prop}
def CallsIf (P : Program) (ops : Array Oper) (S : World → Prop) (o : Oper) (v : Value) (a : Act) : Prop :=
 Region.wanted o (yielded ops a.tmps) = true ∧ ∀ w, S w → ∃ f args, (execOp a.eval o).run P w = .ok (.enter f args) w ∧ Calls P f args w (fun e w' => e = .returned v ∧ w' = w)
theorem CallsIf.wpOp {i : Nat} {o : Oper} {v : Value} {a : Act} (hi : ops[i]? = some o) (hy : CallsIf P ops S o v a)
 {K : Act → World → Prop} {w : World} (hS : S w) (h : K (a.put o.dst v) w) : wpOp P ops Q i K a w := by
 obtain ⟨hw, hv⟩ := hy
 obtain ⟨f, args, hr, hc⟩ := hv w hS
 unfold Go.wpOp
 simp only [hi, hw, if_true, Oper.wp, hr, Oper.upon]
 refine .inl (Calls.mono hc ?_)
 rintro e w' ⟨rfl, rfl⟩
 exact h
theorem CallsIf.of_same {o : Oper} {v : Value} {a a' : Act} (hy : CallsIf P ops S o v a) (he : execOp a'.eval o = execOp a.eval o)
 (hw : Region.wanted o (yielded ops a'.tmps) = Region.wanted o (yielded ops a.tmps)) : CallsIf P ops S o v a' := by
 unfold CallsIf at *
 rw [he, hw]
 exact hy
theorem wpOp_putC {j : Nat} {oi oj : Oper} {v : Value} (hj : ops[j]? = some oj) (hap : oi.apart ops oj = true)
 (hsi : ∀ cs b, oi.op ≠ .select cs b) (hsj : ∀ cs b, oj.op ≠ .select cs b)
 (hQ : ∀ c a w, Q (.panic c) (a.put oi.dst v) w → Q (.panic c) a w) {K : Act → World → Prop} {a : Act} {w : World}
 (hy : CallsIf P ops S oi v a) (h : wpOp P ops Q j K (a.put oi.dst v) w) :
 wpOp P ops Q j (fun a' w' => CallsIf P ops S oi v a' ∧ K (a'.put oi.dst v) w') a w := by
 obtain ⟨h1, h2, h3⟩ := Oper.apart_spec hap
 have keep : ∀ (a : Act), CallsIf P ops S oi v a → ∀ u, CallsIf P ops S oi v (a.put oj.dst u) := fun a hy u =>
  hy.of_same (execOp_put oi hsi a oj.dst u h3) (wanted_put oi a oj.dst u h3)
 have keepD : ∀ d, CallsIf P ops S oi v { a with defers := d :: a.defers } := fun d => hy.of_same rfl rfl
 unfold wpOp at *
 simp only [hj] at *
 rw [wanted_put oj a oi.dst v h1] at h
 split
 · rename_i hw
   simp only [hw, if_true] at h
   rcases h with h | ⟨hasks, hlets⟩
   case inr => exact .inr ⟨by unfold Oper.asks at *; rw [execOp_put oj hsj a oi.dst v h1] at hasks; exact hasks, hlets⟩
   refine .inl ?_
   unfold Oper.wp at *
   rw [execOp_put oj hsj a oi.dst v h1] at h
   generalize (execOp a.eval oj).run P w = r at *
   cases r with
   | ok n w' =>
     cases n <;> simp only [Oper.upon] at h ⊢
     case value u => exact ⟨keep a hy u, by rw [← Act.put_comm a v u h2]; exact h⟩
     case skip => exact ⟨keep a hy _, by rw [← Act.put_comm a v undef h2]; exact h⟩
     case defer d =>
      refine ⟨keep _ (keepD d) _, ?_⟩
      rw [← Act.put_comm _ v undef h2, ← Act.put_defers]
      exact h
     case enter f args =>
      refine Calls.mono h fun e w'' he => ?_
      cases e with
      | returned u => exact ⟨keep a hy u, by rw [← Act.put_comm a v u h2]; exact he⟩
      | panicked c => exact hQ _ _ _ he
      | outgrown => exact he
     case row row args => exact Rows.mono h fun u w'' he => ⟨keep a hy u, by rw [← Act.put_comm a v u h2]; exact he⟩
   | halt x w' =>
     cases x <;> simp only [Oper.upon] at h ⊢
     case panic u => exact hQ _ _ _ h
 · rename_i hw
   simp only [hw] at h
   exact ⟨keep a hy _, by rw [← Act.put_comm a v undef h2]; exact h⟩
theorem wpAnyH_firstC {i : Nat} {oi : Oper} {v : Value} (hi : ops[i]? = some oi) (hsel : ∀ (j : Nat) (o : Oper) cs b, ops[j]? = some o → o.op ≠ .select cs b)
 (hQ : ∀ c a w, Q (.panic c) (a.put oi.dst v) w → Q (.panic c) a w) :
 ∀ (fuel : Nat) (listed : Array Bool) (a : Act) (w : World),
  (∀ j oj, ops[j]? = some oj → j ≠ i → listed.getD j true = false → (∀ e ∈ oj.after, Region.binds md e = true → e.on ≠ i) → oi.apart ops oj = true) →
  i ∈ Region.ready md ops listed → CallsIf P ops S oi v a → S w →
  wpAnyH P md ops Q S fuel (listed.setIfInBounds i true) (a.put oi.dst v) w → wpAnyH P md ops Q S (fuel + 1) listed a w := by
 intro fuel
 induction fuel with
 | zero =>
   intro listed a w _ hr hy hS H
   refine ⟨fun h => (by rw [h] at hr; cases hr), fun j hj => ?_⟩
   by_cases hji : j = i
   · subst hji; exact hy.wpOp hi hS ⟨hS, H⟩
   · have := ready_mono hj hji
     rw [H.1] at this
     cases this
 | succ fuel ih =>
   intro listed a w hfree hr hy hS H
   refine ⟨fun h => (by rw [h] at hr; cases hr), fun j hj => ?_⟩
   by_cases hji : j = i
   · subst hji; exact hy.wpOp hi hS ⟨hS, H⟩
   · have h1 := H.2 j (ready_mono hj hji)
     obtain ⟨hjun, oj, hoj, hall⟩ := mem_ready.1 hj
     have hnot : ∀ e ∈ oj.after, Region.binds md e = true → e.on ≠ i := fun e he hb heq => by
      have h1 := hall e he hb
      have h0 := (mem_ready.1 hr).1
      rw [heq] at h1
      rcases Nat.lt_or_ge i listed.size with h' | h'
      · simp [h'] at h0 h1; rw [h0] at h1; cases h1
      · simp [Array.getElem?_eq_none h'] at h1
     have h2 := wpOp_putC hoj (hfree j oj hoj hji hjun hnot) (fun cs b => hsel i oi cs b hi) (fun cs b => hsel j oj cs b hoj) hQ hy h1
     have hfree' : ∀ k ok, ops[k]? = some ok → k ≠ i → (listed.setIfInBounds j true).getD k true = false →
      (∀ e ∈ ok.after, Region.binds md e = true → e.on ≠ i) → oi.apart ops ok = true := fun k ok hk hki hun hno => by
      refine hfree k ok hk hki ?_ hno
      by_cases hjk : j = k
      · subst hjk; exact hjun
      · rw [getD_set_ne true hjk] at hun; exact hun
     refine wpOp_mono (fun a' w' h3 => ⟨h3.2.1, ih (listed.setIfInBounds j true) a' w' hfree' (ready_mono hr (Ne.symm hji)) h3.1 h3.2.1 ?_⟩) h2
     rw [Array.setIfInBounds_comm _ _ hji]
     exact h3.2.2
end
end Go
namespace Go
section
variable {P : Program} {ops : Array Oper} {Q : Exit → Act → World → Prop} {md : Region.Mode} {S : World → Prop}
theorem aR {i : Nat} {oi : Oper} {v : Value} {fuel : Nat} {listed : Array Bool} {a : Act} {w : World} (hi : ops[i]? = some oi)
 (hs : Region.noSelect ops = true) (hf : Region.free md ops listed i = true) (hr : (Region.ready md ops listed).contains i = true)
 (hQ : ∀ c a w, Q (.panic c) (a.put oi.dst v) w → Q (.panic c) a w) (hy : YieldsIf P ops S oi v a ∨ CallsIf P ops S oi v a) (hS : S w)
 (h : wpAnyH P md ops Q S fuel (listed.setIfInBounds i true) (a.put oi.dst v) w) : wpAnyH P md ops Q S (fuel + 1) listed a w := by
 rcases hy with hy | hy
 · exact wpAnyH_take hi hs hf hr hQ hy hS h
 · exact wpAnyH_firstC hi (Region.noSelect_spec hs) hQ fuel listed a w (Region.free_spec hi hf) (by simpa using hr) hy hS h
end
end Go

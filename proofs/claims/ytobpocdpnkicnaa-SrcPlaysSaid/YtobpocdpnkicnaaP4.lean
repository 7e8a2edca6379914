/- The law SrcPlays: one call, walked. -/
import Derived.Test.YtobpocdpnkicnaaP3
import Derived.Deep.RegionHeld3
import Derived.Deep.DrawnRows
namespace Go.Proofs.Ytobpocdpnkicnaa
open Go.RowKit
set_option linter.unusedVariables false
set_option linter.unusedSimpArgs false
theorem results_tct {P : Program} {fn : Func} {p q r : Tmp} {ty : TypeId} (h : fn.results = #[.tmp p, .cell q ty, .tmp r]) (tmps : Array Value) (w : World) (b : Nat) (cs : List Value) (d : TypeDesc)
    (hp : tmps.getD q undef = .pointer (some ⟨b, 0, none⟩)) (R : w.rangeAt b 0 cs) (hu : P.underlying ty = some d) (hd : d.isRow = true) (hi : (P.info? ty).map (·.size) = some cs.length) :
    (results fn tmps).run P w = .ok (.tuple #[tmps.getD p undef, .agg cs.toArray, tmps.getD r undef]) w := by
  have hp' : tmps[q]?.getD undef = .pointer (some ⟨b, 0, none⟩) := by simpa using hp
  simp [results, h, hp', asAddr, run_loadVar_mid w b 0 ty cs d R hu hd hi]
def OneP (w : World) (X : Nat) (x : Sr) (Y : Nat) (y : Sr) (m : Led) (e : Ending) (w' : World) : Prop :=
  e = .returned (.tuple #[.pointer (some ⟨Y, 0, none⟩), .agg (St y m).toArray, .bool true]) ∧ Pair w' Y y m ∧ Chg (two X x) w w'
def kn (k : Int) : Int := if k = 1 then 1 else if k = 2 ∨ k = 5 then 2 else 4
theorem reads_any (X : Nat) (x : Sr) (l : Led) (k : Int) (w : World) (h : Pair w X x l) (hi : l.inv) (h1 : 1 ≤ k) (h6 : k ≤ 6) : Calls Try.prog 93 #[.pointer (some ⟨X, 0, none⟩), .agg (St x l).toArray, .int .i64 k] w (Step w X x (x.next l (kn k)).1.1 (x.next l (kn k)).1.2) := by
  rcases (show k = 1 ∨ k = 2 ∨ k = 3 ∨ k = 4 ∨ k = 5 ∨ k = 6 by omega) with rfl | rfl | rfl | rfl | rfl | rfl
  · exact reads_1 X x l w h hi
  · exact reads_2 X x l w h hi
  · exact reads_3 X x l w h hi
  · exact reads_4 X x l w h hi
  · exact reads_5 X x l w h hi
  · exact reads_6 X x l w h hi
theorem keep13 {w : World} {b c j : Nat} {v : Value} (v0 v1 v2 v3 v4 v5 v6 v7 v8 v9 v10 v11 v12 : Value) (hn : b ≠ c) (h : w.cell? ⟨b, j, none⟩ = some v) : (((((((((((((w.setCell ⟨c, 0, none⟩ v0).setCell ⟨c, 1, none⟩ v1).setCell ⟨c, 2, none⟩ v2).setCell ⟨c, 3, none⟩ v3).setCell ⟨c, 4, none⟩ v4).setCell ⟨c, 5, none⟩ v5).setCell ⟨c, 6, none⟩ v6).setCell ⟨c, 7, none⟩ v7).setCell ⟨c, 8, none⟩ v8).setCell ⟨c, 9, none⟩ v9).setCell ⟨c, 10, none⟩ v10).setCell ⟨c, 11, none⟩ v11).setCell ⟨c, 12, none⟩ v12).cell? ⟨b, j, none⟩ = some v := by
  rw [World.cell?_setCell_other _ _ _ _ (fun e => hn (congrArg Addr.block e).symm), World.cell?_setCell_other _ _ _ _ (fun e => hn (congrArg Addr.block e).symm), World.cell?_setCell_other _ _ _ _ (fun e => hn (congrArg Addr.block e).symm), World.cell?_setCell_other _ _ _ _ (fun e => hn (congrArg Addr.block e).symm), World.cell?_setCell_other _ _ _ _ (fun e => hn (congrArg Addr.block e).symm), World.cell?_setCell_other _ _ _ _ (fun e => hn (congrArg Addr.block e).symm), World.cell?_setCell_other _ _ _ _ (fun e => hn (congrArg Addr.block e).symm), World.cell?_setCell_other _ _ _ _ (fun e => hn (congrArg Addr.block e).symm), World.cell?_setCell_other _ _ _ _ (fun e => hn (congrArg Addr.block e).symm), World.cell?_setCell_other _ _ _ _ (fun e => hn (congrArg Addr.block e).symm), World.cell?_setCell_other _ _ _ _ (fun e => hn (congrArg Addr.block e).symm), World.cell?_setCell_other _ _ _ _ (fun e => hn (congrArg Addr.block e).symm), World.cell?_setCell_other _ _ _ _ (fun e => hn (congrArg Addr.block e).symm)]
  exact h
set_option maxRecDepth 100000 in
set_option maxHeartbeats 4000000 in
theorem one_reads (X : Nat) (x : Sr) (l : Led) (k N M : Int) (w : World) (h : Pair w X x l) (hi : l.inv) (h1 : 1 ≤ k) (h6 : k ≤ 6) :
    Calls Try.prog 65 #[.pointer (some ⟨X, 0, none⟩), .agg (St x l).toArray, .agg #[.int .i64 k, .int .i64 N, .int .i64 M]] w (OneP w X x X (x.next l (kn k)).1.1 (x.next l (kn k)).1.2) := by
  have hX := h.src.lt
  have hL := h.led.lt
  have HXL := Lib.hid (St_len x l)
  have HP := Lib.hid (fun (w0 : World) (hb : Below w.heap.size w w0) => reads_any X x l k w0 (h.under hb hX hL) hi h1 h6)
  have HLL := next_L x l (kn k)
  obtain ⟨y, hy⟩ : ∃ y, (x.next l (kn k)).1.1 = y := ⟨_, rfl⟩
  obtain ⟨m, hm⟩ : ∃ m, (x.next l (kn k)).1.2 = m := ⟨_, rfl⟩
  rw [hy] at HP HLL ⊢
  rw [hm] at HP ⊢
  have HYL := Lib.hid (St_len y m)
  have HYO := Lib.hid (St_one y m)
  unfold Step at HP
  unfold OneP
  obtain ⟨XS, hXS⟩ : ∃ XS, St x l = XS := ⟨_, rfl⟩
  obtain ⟨YS, hYS⟩ : ∃ YS, St y m = YS := ⟨_, rfl⟩
  rw [hXS] at HXL HP ⊢
  rw [hYS] at HYL HYO HP ⊢
  clear hXS hYS hy hm h hi
  have O0 := Lib.hid (fun T1 cs1 T' cs' => (((obj1_new w XS.toArray 105).alloc (.cells cs1 T1)).alloc (.cells cs' T')))
  have O2 : Hid (∀ cs1 cs, Obj1 (((w.alloc (.cells XS.toArray 105)).alloc (.cells cs1 109)).alloc (.cells cs 105)) (w.heap.size + 1 + 1) cs 105) := fun cs1 cs => by
    have := (obj1_new2 (w.alloc (.cells XS.toArray 105)) (.cells cs1 109) (cs := cs) (cs' := cs) 105 rfl)
    simpa using this
  have BB := Lib.hid (fun T1 cs1 T' cs' => ((((Below.refl w.heap.size w).alloc (Nat.le_refl _) (.cells XS.toArray 105)).alloc (by simp) (.cells cs1 T1)).alloc (by simp; omega) (.cells cs' T')))
  have CC := Lib.hid (fun T1 cs1 T' cs' => ((((Chg.refl (two X x) w).alloc (.cells XS.toArray 105)).alloc (.cells cs1 T1)).alloc (.cells cs' T')))
  have hn0 : ∀ k, w.heap.size ≤ k → ¬ two X x k := fun k hk h => by rcases h with h | h <;> omega
  have HN0 := Lib.hid hn0
  clear hn0
  have G1 : decide (k ≥ 1) = true := by rw [decide_eq_true_iff]; exact h1
  have G2 : decide (k ≤ 6) = true := by rw [decide_eq_true_iff]; exact h6
  go_enter Try.func65, Try.ntmps65
  go_wp2_with (first
    | (refine load_st rfl (.tmp 4) rfl w.heap.size XS HXL.out rfl (O0.out _ _ _ _) ?_)
    | ((go_at_call 93; (with_reducible refine (HP.out _ (BB.out _ _ _ _)).mono ?_); rintro e w1 ⟨rfl, hP1, hC1⟩); have OR1 := Lib.hid (hC1.obj (O2.out _ _) (HN0.out _ (by omega))); have C1 := Lib.hid ((CC.out _ _ _ _).trans hC1); have HP1 := Lib.hid hP1; clear hP1 hC1)
    | (refine store_st rfl (.tmp 9) (.tmp 43) rfl w1.heap.size YS HYL.out HYO.out rfl rfl (obj1_new w1 _ _) rfl ?_; intro w2 hst hO2; have OY := Lib.hid hO2; have OR2 := Lib.hid (hst.oth (OR1.out.alloc _) (Nat.ne_of_lt OR1.out.lt)); have C2 := Lib.hid (hst.chg (C1.out.alloc _) (Or.inr C1.out.size)); have HP2 := Lib.hid (Pair.stored (HP1.out.under ((Below.refl _ _).alloc (Nat.le_refl _) _) HP1.out.src.lt HP1.out.led.lt) hst (Nat.ne_of_lt HP1.out.src.lt) (Nat.ne_of_lt HP1.out.led.lt)); clear hst hO2))
  have OR2' := OR2.out
  have hi : (Try.prog.info? 105).map (·.size) = some YS.length := by rw [HYL.out]; kernel_rfl
  refine wp_region_noPanic ?_
  refine wp_region_held_drew (S := fun w' => w'.rangeAt w1.heap.size 0 YS ∧ w'.there (w.heap.size + 1 + 1) 0 13) (by kernel_rfl) ⟨OY.out.range0, OR2'.there 0 13 (by simp)⟩ (fun hHeld => ?_)
  refine wpAnyH_take (i := 0) (v := .pointer (some ⟨X, 0, none⟩)) rfl (by kernel_rfl) (by kernel_rfl) (by kernel_rfl) (fun _ _ _ h => h) (Or.inl ⟨by rfl, fun w _ => by go_simp⟩) hHeld ?_
  simp only [Act.put, List.setIfInBounds_toArray, List.set_cons_zero, List.set_cons_succ, List.getElem_toArray, List.getElem_cons_zero, List.getElem_cons_succ]
  refine wpAnyH_take (i := 1) rfl (by kernel_rfl) (by kernel_rfl) (by kernel_rfl) (fun _ _ _ h => h) (yieldsIf_load_mid (by rfl) 105 _ rfl w1.heap.size 0 rfl YS _ (fun _ h => h.1) Try.underlying105 rfl hi) hHeld ?_
  simp only [Act.put, List.setIfInBounds_toArray, List.set_cons_zero, List.set_cons_succ, List.getElem_toArray, List.getElem_cons_zero, List.getElem_cons_succ]
  refine wpAnyH_take (i := 2) (v := .bool true) rfl (by kernel_rfl) (by kernel_rfl) (by kernel_rfl) (fun _ _ _ h => h) (Or.inl ⟨by rfl, fun w _ => by go_simp⟩) hHeld ?_
  simp only [Act.put, List.setIfInBounds_toArray, List.set_cons_zero, List.set_cons_succ, List.getElem_toArray, List.getElem_cons_zero, List.getElem_cons_succ]
  refine wpAnyH_take (i := 3) (v := .pointer (some ⟨X, 0, none⟩)) rfl (by kernel_rfl) (by kernel_rfl) (by kernel_rfl) (fun _ _ _ h => h) (Or.inl ⟨by rfl, fun w _ => by go_simp⟩) hHeld ?_
  simp only [Act.put, List.setIfInBounds_toArray, List.set_cons_zero, List.set_cons_succ, List.getElem_toArray, List.getElem_cons_zero, List.getElem_cons_succ]
  refine wpAnyH_ready (rs := [4]) (by kernel_rfl) (by simp) ?_
  refine AllReadyH.cons (o := _) rfl (fun K hK => ?_) AllReadyH.nil
  rw [if_pos (by rfl)]
  refine wp_store_mid 105 _ _ rfl (w.heap.size + 1 + 1) 0 (List.toArray YS) rfl rfl (by have := OR2'.there 0 13 (by simp); simpa [HYL.out] using this) (by rw [List.size_toArray]; exact hi) (all_oneCell_toArray (List.all_eq_true.1 HYO.out)) ?_
  simp only [Act.put, List.setIfInBounds_toArray, List.set_cons_zero, List.set_cons_succ, List.getElem_toArray, List.getElem_cons_zero, List.getElem_cons_succ]
  have hst : Stored w2.drew (w.heap.size + 1 + 1) 0 YS (w2.drew.setCells (w.heap.size + 1 + 1) 0 YS) := rfl
  have hO3 := hst.full (T := 105) OR2'.drew HYL.out
  have hOY3 := hst.oth (OY.out.drew) (fun e => by have := OR1.out.lt; omega)
  have C3 := Lib.hid (hst.chg C2.out.drew (Or.inr (by omega)))
  have HP3 := Lib.hid (Pair.stored (⟨⟨HP2.out.src.obj.drew, HP2.out.src.ok, HP2.out.src.ne⟩, ⟨HP2.out.led.obj.drew, HP2.out.led.ok⟩⟩ : Pair w2.drew _ _ _) hst (by omega) (by rw [HLL]; omega))
  obtain ⟨w3, hw3⟩ : ∃ w3, w2.drew.setCells (w.heap.size + 1 + 1) 0 YS = w3 := ⟨_, rfl⟩
  rw [hw3] at hO3 hOY3 C3 HP3 ⊢
  clear hst hw3
  refine hK.out _ _ ⟨hOY3.range0, by have := hO3.there 0 13 (by simp [HYL.out]); simpa using this⟩ (fun hHeld2 => ?_)
  refine wpAnyH_take (i := 5) (v := .bool true) rfl (by kernel_rfl) (by kernel_rfl) (by kernel_rfl) (fun _ _ _ h => h) (Or.inl ⟨by rfl, fun w _ => by go_simp⟩) hHeld2 ?_
  simp only [Act.put, List.setIfInBounds_toArray, List.set_cons_zero, List.set_cons_succ, List.getElem_toArray, List.getElem_cons_zero, List.getElem_cons_succ]
  refine wpAnyH_done (by kernel_rfl) ?_ _
  refine NoPanic.normal ?_
  clear hK K
  go_wp2
  refine bodyPost_ret (v := .tuple #[.pointer (some ⟨X, 0, none⟩), .agg YS.toArray, .bool true]) ?_ rfl ⟨rfl, HP3.out, C3.out⟩
  exact results_tct Try.results65 _ _ _ _ _ rfl hO3.range0 Try.underlying105 rfl hi
end Go.Proofs.Ytobpocdpnkicnaa

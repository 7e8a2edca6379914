/- The law SrcPlays: all readings of numbers, walked. -/
import Derived.Test.YtobpocdpnkicnaaP2
namespace Go.Proofs.Ytobpocdpnkicnaa
open Go.RowKit
set_option linter.unusedVariables false
theorem Pair.under {B : Nat} {w w' : World} {X : Nat} {x : Sr} {l : Led} (h : Pair w X x l) (hb : Below B w w') (h1 : X < B) (h2 : x.L < B) : Pair w' X x l := ⟨⟨h.src.obj.below hb h1, h.src.ok, h.src.ne⟩, ⟨h.led.obj.below hb h2, h.led.ok⟩⟩
theorem Pair.stored {w w2 : World} {X b o : Nat} {vs : List Value} {x : Sr} {l : Led} (h : Pair w X x l) (hst : Stored w b o vs w2) (h1 : X ≠ b) (h2 : x.L ≠ b) : Pair w2 X x l :=
  ⟨⟨hst.oth h.src.obj h1, h.src.ok, h.src.ne⟩, ⟨hst.oth h.led.obj h2, h.led.ok⟩⟩
theorem Stored.chg {S : Nat → Prop} {a w w2 : World} {b o : Nat} {vs : List Value} (hst : Stored w b o vs w2) (h : Chg S a w) (hb : S b ∨ a.heap.size ≤ b) : Chg S a w2 := by
  rw [show w2 = _ from hst]; clear hst
  induction vs generalizing w o with
  | nil => exact h
  | cons v r ih => rw [World.setCells]; exact ih (h.set _ _ hb)
theorem kind_lo (k : Int) (x : Sr) (l : Led) (n : Int) (h : k < 4) : if (x.next l n).2.2 = true then numB (x.next l n).2.1 true = kindVal k (x.next l n).2.1 else numB (x.next l n).2.1 true = 0 := by
  cases hb : (x.next l n).2.2
  · rw [if_neg (by decide), (next_bad hb).2.2.1]; exact num0
  · rw [if_pos rfl]; rw [kindVal, if_neg (by omega), if_neg (by omega)]; rfl
theorem kind_hi (k : Int) (x : Sr) (l : Led) (n : Int) (h : 4 < k) : if (x.next l n).2.2 = true then numB (x.next l n).2.1 false = kindVal k (x.next l n).2.1 else numB (x.next l n).2.1 false = 0 := by
  cases hb : (x.next l n).2.2
  · rw [if_neg (by decide), (next_bad hb).2.2.1]; decide +kernel
  · rw [if_pos rfl]; rw [kindVal, if_neg (by omega), if_pos h]; rfl
theorem kind_sg (x : Sr) (l : Led) (n : Int) : if (x.next l n).2.2 = true then signed (numB (x.next l n).2.1 true) = kindVal 4 (x.next l n).2.1 else signed (numB (x.next l n).2.1 true) = 0 := by
  cases hb : (x.next l n).2.2
  · rw [if_neg (by decide), (next_bad hb).2.2.1]; decide +kernel
  · rw [if_pos rfl]; rw [kindVal, if_pos rfl]; rfl
/-- What a step of the law comes to: the state is the source's. -/
def Step (w : World) (X : Nat) (x y : Sr) (m : Led) (e : Ending) (w' : World) : Prop := e = .returned (.tuple #[.agg (St y m).toArray, .bool true]) ∧ Pair w' X y m ∧ Chg (two X x) w w'
theorem next_L (x : Sr) (l : Led) (n : Int) : (x.next l n).1.1.L = x.L := by
  unfold Sr.next; split <;> rfl
set_option maxRecDepth 100000 in
set_option maxHeartbeats 2000000 in
theorem reads_1 (X : Nat) (x : Sr) (l : Led) (w : World) (h : Pair w X x l) (hi : l.inv) : Calls Try.prog 93 #[.pointer (some ⟨X, 0, none⟩), .agg (St x l).toArray, .int .i64 1] w (Step w X x (x.next l 1).1.1 (x.next l 1).1.2) := by
  have hX := h.src.lt
  have hL := h.led.lt
  have hok := h.src.ok
  have HLL := next_L x l 1
  have HXL := Lib.hid (St_len x l)
  have HP := Lib.hid (fun (w0 : World) (hb : Below w.heap.size w w0) => u8_any X x l w0 (h.under hb hX hL))
  have HN := Lib.hid (fun w0 => lnumber_any x l 1 (numB (x.next l 1).2.1 true) 1 w0 hi hok (by decide) (by decide) (kind_lo 1 x l 1 (by decide)))
  have HYL := Lib.hid (St_len (x.next l 1).1.1 (x.next l 1).1.2)
  have HYO := Lib.hid (St_one (x.next l 1).1.1 (x.next l 1).1.2)
  unfold NumOf NumPost at HP
  unfold RPost at HN
  unfold Step
  obtain ⟨XS, hXS⟩ : ∃ XS, St x l = XS := ⟨_, rfl⟩
  obtain ⟨YS, hYS⟩ : ∃ YS, St (x.next l 1).1.1 (x.next l 1).1.2 = YS := ⟨_, rfl⟩
  obtain ⟨v, hv⟩ : ∃ v, numB (x.next l 1).2.1 true = v := ⟨_, rfl⟩
  obtain ⟨ok, hk⟩ : ∃ ok, (x.next l 1).2.2 = ok := ⟨_, rfl⟩
  rw [hXS] at HXL HN ⊢
  rw [hYS] at HYL HYO HN ⊢
  rw [hv] at HP HN
  rw [hk] at HP HN
  obtain ⟨y, hy⟩ : ∃ y, (x.next l 1).1.1 = y := ⟨_, rfl⟩
  obtain ⟨m, hm⟩ : ∃ m, (x.next l 1).1.2 = m := ⟨_, rfl⟩
  rw [hy] at HP HLL ⊢
  rw [hm] at HP ⊢
  clear hXS hYS hv hk hy hm h hi hok
  have O0 := Lib.hid (fun T' cs' => ((obj1_new w XS.toArray 105).alloc (.cells cs' T')))
  have O1 := Lib.hid (fun cs => obj1_new2 w (.cells XS.toArray 105) (cs := cs) (cs' := cs) 105 rfl)
  have BB := Lib.hid (fun T' cs' => (((Below.refl w.heap.size w).alloc (Nat.le_refl _) (.cells XS.toArray 105)).alloc (by simp) (.cells cs' T')))
  have CC := Lib.hid (fun T' cs' => (((Chg.refl (two X x) w).alloc (.cells XS.toArray 105)).alloc (.cells cs' T')))
  have hn0 : ∀ k, w.heap.size ≤ k → ¬ two X x k := fun k hk h => by rcases h with h | h <;> omega
  have HN0 := Lib.hid hn0
  clear hn0
  go_enter Try.func93, Try.ntmps93
  go_wp2_with (first
    | ((go_at_call 84; (with_reducible refine (HP.out _ (BB.out _ _)).mono ?_); rintro e w1 ⟨rfl, hP1, hC1⟩); have OH1 := Lib.hid (hC1.obj (O0.out _ _) (HN0.out _ (Nat.le_refl _))); have OR1 := Lib.hid (hC1.obj (O1.out _) (HN0.out _ (by omega))); have C1 := Lib.hid ((CC.out _ _).trans hC1); have HP1 := Lib.hid hP1; clear hP1 hC1)
    | (refine load_st rfl (.tmp 4) rfl w.heap.size XS HXL.out rfl OH1.out ?_)
    | ((go_at_call 109; (with_reducible refine (HN.out _).mono ?_); rintro e w2 ⟨rfl, hb2⟩); have OR2 := Lib.hid (OR1.out.below hb2 OR1.out.lt); have C2 := Lib.hid (C1.out.trans (chg_of_below hb2 _)); have HP2 := Lib.hid (HP1.out.under hb2 HP1.out.src.lt HP1.out.led.lt); clear hb2)
    | (refine store_st rfl (.tmp 6) (.tmp 60) rfl (w.heap.size + 1) YS HYL.out HYO.out rfl rfl OR2.out rfl ?_; intro w3 hst hO3; have R := Lib.hid hO3.range0; have C3 := Lib.hid (hst.chg C2.out (Or.inr (by omega))); have HP3 := Lib.hid (HP2.out.stored hst (by omega) (by rw [HLL]; omega)); clear hst hO3))
  refine bodyPost_ret (v := .tuple #[.agg YS.toArray, .bool true]) ?_ rfl ⟨rfl, HP3.out, C3.out⟩
  exact results_c1 Try.results93 _ _ _ _ _ rfl R.out Try.underlying105 rfl (by rw [HYL.out]; kernel_rfl)
set_option maxRecDepth 100000 in
set_option maxHeartbeats 2000000 in
theorem reads_2 (X : Nat) (x : Sr) (l : Led) (w : World) (h : Pair w X x l) (hi : l.inv) : Calls Try.prog 93 #[.pointer (some ⟨X, 0, none⟩), .agg (St x l).toArray, .int .i64 2] w (Step w X x (x.next l 2).1.1 (x.next l 2).1.2) := by
  have hX := h.src.lt
  have hL := h.led.lt
  have hok := h.src.ok
  have HLL := next_L x l 2
  have HXL := Lib.hid (St_len x l)
  have HP := Lib.hid (fun (w0 : World) (hb : Below w.heap.size w w0) => le16_any X x l w0 (h.under hb hX hL))
  have HN := Lib.hid (fun w0 => lnumber_any x l 2 (numB (x.next l 2).2.1 true) 2 w0 hi hok (by decide) (by decide) (kind_lo 2 x l 2 (by decide)))
  have HYL := Lib.hid (St_len (x.next l 2).1.1 (x.next l 2).1.2)
  have HYO := Lib.hid (St_one (x.next l 2).1.1 (x.next l 2).1.2)
  unfold NumOf NumPost at HP
  unfold RPost at HN
  unfold Step
  obtain ⟨XS, hXS⟩ : ∃ XS, St x l = XS := ⟨_, rfl⟩
  obtain ⟨YS, hYS⟩ : ∃ YS, St (x.next l 2).1.1 (x.next l 2).1.2 = YS := ⟨_, rfl⟩
  obtain ⟨v, hv⟩ : ∃ v, numB (x.next l 2).2.1 true = v := ⟨_, rfl⟩
  obtain ⟨ok, hk⟩ : ∃ ok, (x.next l 2).2.2 = ok := ⟨_, rfl⟩
  rw [hXS] at HXL HN ⊢
  rw [hYS] at HYL HYO HN ⊢
  rw [hv] at HP HN
  rw [hk] at HP HN
  obtain ⟨y, hy⟩ : ∃ y, (x.next l 2).1.1 = y := ⟨_, rfl⟩
  obtain ⟨m, hm⟩ : ∃ m, (x.next l 2).1.2 = m := ⟨_, rfl⟩
  rw [hy] at HP HLL ⊢
  rw [hm] at HP ⊢
  clear hXS hYS hv hk hy hm h hi hok
  have O0 := Lib.hid (fun T' cs' => ((obj1_new w XS.toArray 105).alloc (.cells cs' T')))
  have O1 := Lib.hid (fun cs => obj1_new2 w (.cells XS.toArray 105) (cs := cs) (cs' := cs) 105 rfl)
  have BB := Lib.hid (fun T' cs' => (((Below.refl w.heap.size w).alloc (Nat.le_refl _) (.cells XS.toArray 105)).alloc (by simp) (.cells cs' T')))
  have CC := Lib.hid (fun T' cs' => (((Chg.refl (two X x) w).alloc (.cells XS.toArray 105)).alloc (.cells cs' T')))
  have hn0 : ∀ k, w.heap.size ≤ k → ¬ two X x k := fun k hk h => by rcases h with h | h <;> omega
  have HN0 := Lib.hid hn0
  clear hn0
  go_enter Try.func93, Try.ntmps93
  go_wp2_with (first
    | ((go_at_call 51; (with_reducible refine (HP.out _ (BB.out _ _)).mono ?_); rintro e w1 ⟨rfl, hP1, hC1⟩); have OH1 := Lib.hid (hC1.obj (O0.out _ _) (HN0.out _ (Nat.le_refl _))); have OR1 := Lib.hid (hC1.obj (O1.out _) (HN0.out _ (by omega))); have C1 := Lib.hid ((CC.out _ _).trans hC1); have HP1 := Lib.hid hP1; clear hP1 hC1)
    | (refine load_st rfl (.tmp 4) rfl w.heap.size XS HXL.out rfl OH1.out ?_)
    | ((go_at_call 109; (with_reducible refine (HN.out _).mono ?_); rintro e w2 ⟨rfl, hb2⟩); have OR2 := Lib.hid (OR1.out.below hb2 OR1.out.lt); have C2 := Lib.hid (C1.out.trans (chg_of_below hb2 _)); have HP2 := Lib.hid (HP1.out.under hb2 HP1.out.src.lt HP1.out.led.lt); clear hb2)
    | (refine store_st rfl (.tmp 6) (.tmp 60) rfl (w.heap.size + 1) YS HYL.out HYO.out rfl rfl OR2.out rfl ?_; intro w3 hst hO3; have R := Lib.hid hO3.range0; have C3 := Lib.hid (hst.chg C2.out (Or.inr (by omega))); have HP3 := Lib.hid (HP2.out.stored hst (by omega) (by rw [HLL]; omega)); clear hst hO3))
  refine bodyPost_ret (v := .tuple #[.agg YS.toArray, .bool true]) ?_ rfl ⟨rfl, HP3.out, C3.out⟩
  exact results_c1 Try.results93 _ _ _ _ _ rfl R.out Try.underlying105 rfl (by rw [HYL.out]; kernel_rfl)
set_option maxRecDepth 100000 in
set_option maxHeartbeats 2000000 in
theorem reads_3 (X : Nat) (x : Sr) (l : Led) (w : World) (h : Pair w X x l) (hi : l.inv) : Calls Try.prog 93 #[.pointer (some ⟨X, 0, none⟩), .agg (St x l).toArray, .int .i64 3] w (Step w X x (x.next l 4).1.1 (x.next l 4).1.2) := by
  have hX := h.src.lt
  have hL := h.led.lt
  have hok := h.src.ok
  have HLL := next_L x l 4
  have HXL := Lib.hid (St_len x l)
  have HP := Lib.hid (fun (w0 : World) (hb : Below w.heap.size w w0) => le32_any X x l w0 (h.under hb hX hL))
  have HN := Lib.hid (fun w0 => lnumber_any x l 4 (numB (x.next l 4).2.1 true) 3 w0 hi hok (by decide) (by decide) (kind_lo 3 x l 4 (by decide)))
  have HYL := Lib.hid (St_len (x.next l 4).1.1 (x.next l 4).1.2)
  have HYO := Lib.hid (St_one (x.next l 4).1.1 (x.next l 4).1.2)
  unfold NumOf NumPost at HP
  unfold RPost at HN
  unfold Step
  obtain ⟨XS, hXS⟩ : ∃ XS, St x l = XS := ⟨_, rfl⟩
  obtain ⟨YS, hYS⟩ : ∃ YS, St (x.next l 4).1.1 (x.next l 4).1.2 = YS := ⟨_, rfl⟩
  obtain ⟨v, hv⟩ : ∃ v, numB (x.next l 4).2.1 true = v := ⟨_, rfl⟩
  obtain ⟨ok, hk⟩ : ∃ ok, (x.next l 4).2.2 = ok := ⟨_, rfl⟩
  rw [hXS] at HXL HN ⊢
  rw [hYS] at HYL HYO HN ⊢
  rw [hv] at HP HN
  rw [hk] at HP HN
  obtain ⟨y, hy⟩ : ∃ y, (x.next l 4).1.1 = y := ⟨_, rfl⟩
  obtain ⟨m, hm⟩ : ∃ m, (x.next l 4).1.2 = m := ⟨_, rfl⟩
  rw [hy] at HP HLL ⊢
  rw [hm] at HP ⊢
  clear hXS hYS hv hk hy hm h hi hok
  have O0 := Lib.hid (fun T' cs' => ((obj1_new w XS.toArray 105).alloc (.cells cs' T')))
  have O1 := Lib.hid (fun cs => obj1_new2 w (.cells XS.toArray 105) (cs := cs) (cs' := cs) 105 rfl)
  have BB := Lib.hid (fun T' cs' => (((Below.refl w.heap.size w).alloc (Nat.le_refl _) (.cells XS.toArray 105)).alloc (by simp) (.cells cs' T')))
  have CC := Lib.hid (fun T' cs' => (((Chg.refl (two X x) w).alloc (.cells XS.toArray 105)).alloc (.cells cs' T')))
  have hn0 : ∀ k, w.heap.size ≤ k → ¬ two X x k := fun k hk h => by rcases h with h | h <;> omega
  have HN0 := Lib.hid hn0
  clear hn0
  go_enter Try.func93, Try.ntmps93
  go_wp2_with (first
    | ((go_at_call 47; (with_reducible refine (HP.out _ (BB.out _ _)).mono ?_); rintro e w1 ⟨rfl, hP1, hC1⟩); have OH1 := Lib.hid (hC1.obj (O0.out _ _) (HN0.out _ (Nat.le_refl _))); have OR1 := Lib.hid (hC1.obj (O1.out _) (HN0.out _ (by omega))); have C1 := Lib.hid ((CC.out _ _).trans hC1); have HP1 := Lib.hid hP1; clear hP1 hC1)
    | (refine load_st rfl (.tmp 4) rfl w.heap.size XS HXL.out rfl OH1.out ?_)
    | ((go_at_call 109; (with_reducible refine (HN.out _).mono ?_); rintro e w2 ⟨rfl, hb2⟩); have OR2 := Lib.hid (OR1.out.below hb2 OR1.out.lt); have C2 := Lib.hid (C1.out.trans (chg_of_below hb2 _)); have HP2 := Lib.hid (HP1.out.under hb2 HP1.out.src.lt HP1.out.led.lt); clear hb2)
    | (refine store_st rfl (.tmp 6) (.tmp 60) rfl (w.heap.size + 1) YS HYL.out HYO.out rfl rfl OR2.out rfl ?_; intro w3 hst hO3; have R := Lib.hid hO3.range0; have C3 := Lib.hid (hst.chg C2.out (Or.inr (by omega))); have HP3 := Lib.hid (HP2.out.stored hst (by omega) (by rw [HLL]; omega)); clear hst hO3))
  refine bodyPost_ret (v := .tuple #[.agg YS.toArray, .bool true]) ?_ rfl ⟨rfl, HP3.out, C3.out⟩
  exact results_c1 Try.results93 _ _ _ _ _ rfl R.out Try.underlying105 rfl (by rw [HYL.out]; kernel_rfl)
set_option maxRecDepth 100000 in
set_option maxHeartbeats 2000000 in
theorem reads_4 (X : Nat) (x : Sr) (l : Led) (w : World) (h : Pair w X x l) (hi : l.inv) : Calls Try.prog 93 #[.pointer (some ⟨X, 0, none⟩), .agg (St x l).toArray, .int .i64 4] w (Step w X x (x.next l 4).1.1 (x.next l 4).1.2) := by
  have hX := h.src.lt
  have hL := h.led.lt
  have hok := h.src.ok
  have HLL := next_L x l 4
  have HXL := Lib.hid (St_len x l)
  have HP := Lib.hid (fun (w0 : World) (hb : Below w.heap.size w w0) => int32_any X x l w0 (h.under hb hX hL))
  have HN := Lib.hid (fun w0 => lnumber_any x l 4 (signed (numB (x.next l 4).2.1 true)) 4 w0 hi hok (by decide) (by decide) (kind_sg x l 4))
  have HYL := Lib.hid (St_len (x.next l 4).1.1 (x.next l 4).1.2)
  have HYO := Lib.hid (St_one (x.next l 4).1.1 (x.next l 4).1.2)
  unfold SgnOf NumPost at HP
  unfold RPost at HN
  unfold Step
  obtain ⟨XS, hXS⟩ : ∃ XS, St x l = XS := ⟨_, rfl⟩
  obtain ⟨YS, hYS⟩ : ∃ YS, St (x.next l 4).1.1 (x.next l 4).1.2 = YS := ⟨_, rfl⟩
  obtain ⟨v, hv⟩ : ∃ v, signed (numB (x.next l 4).2.1 true) = v := ⟨_, rfl⟩
  obtain ⟨ok, hk⟩ : ∃ ok, (x.next l 4).2.2 = ok := ⟨_, rfl⟩
  rw [hXS] at HXL HN ⊢
  rw [hYS] at HYL HYO HN ⊢
  rw [hv] at HP HN
  rw [hk] at HP HN
  obtain ⟨y, hy⟩ : ∃ y, (x.next l 4).1.1 = y := ⟨_, rfl⟩
  obtain ⟨m, hm⟩ : ∃ m, (x.next l 4).1.2 = m := ⟨_, rfl⟩
  rw [hy] at HP HLL ⊢
  rw [hm] at HP ⊢
  clear hXS hYS hv hk hy hm h hi hok
  have O0 := Lib.hid (fun T' cs' => ((obj1_new w XS.toArray 105).alloc (.cells cs' T')))
  have O1 := Lib.hid (fun cs => obj1_new2 w (.cells XS.toArray 105) (cs := cs) (cs' := cs) 105 rfl)
  have BB := Lib.hid (fun T' cs' => (((Below.refl w.heap.size w).alloc (Nat.le_refl _) (.cells XS.toArray 105)).alloc (by simp) (.cells cs' T')))
  have CC := Lib.hid (fun T' cs' => (((Chg.refl (two X x) w).alloc (.cells XS.toArray 105)).alloc (.cells cs' T')))
  have hn0 : ∀ k, w.heap.size ≤ k → ¬ two X x k := fun k hk h => by rcases h with h | h <;> omega
  have HN0 := Lib.hid hn0
  clear hn0
  go_enter Try.func93, Try.ntmps93
  go_wp2_with (first
    | ((go_at_call 50; (with_reducible refine (HP.out _ (BB.out _ _)).mono ?_); rintro e w1 ⟨rfl, hP1, hC1⟩); have OH1 := Lib.hid (hC1.obj (O0.out _ _) (HN0.out _ (Nat.le_refl _))); have OR1 := Lib.hid (hC1.obj (O1.out _) (HN0.out _ (by omega))); have C1 := Lib.hid ((CC.out _ _).trans hC1); have HP1 := Lib.hid hP1; clear hP1 hC1)
    | (refine load_st rfl (.tmp 4) rfl w.heap.size XS HXL.out rfl OH1.out ?_)
    | ((go_at_call 109; (with_reducible refine (HN.out _).mono ?_); rintro e w2 ⟨rfl, hb2⟩); have OR2 := Lib.hid (OR1.out.below hb2 OR1.out.lt); have C2 := Lib.hid (C1.out.trans (chg_of_below hb2 _)); have HP2 := Lib.hid (HP1.out.under hb2 HP1.out.src.lt HP1.out.led.lt); clear hb2)
    | (refine store_st rfl (.tmp 6) (.tmp 60) rfl (w.heap.size + 1) YS HYL.out HYO.out rfl rfl OR2.out rfl ?_; intro w3 hst hO3; have R := Lib.hid hO3.range0; have C3 := Lib.hid (hst.chg C2.out (Or.inr (by omega))); have HP3 := Lib.hid (HP2.out.stored hst (by omega) (by rw [HLL]; omega)); clear hst hO3))
  refine bodyPost_ret (v := .tuple #[.agg YS.toArray, .bool true]) ?_ rfl ⟨rfl, HP3.out, C3.out⟩
  exact results_c1 Try.results93 _ _ _ _ _ rfl R.out Try.underlying105 rfl (by rw [HYL.out]; kernel_rfl)
set_option maxRecDepth 100000 in
set_option maxHeartbeats 2000000 in
theorem reads_5 (X : Nat) (x : Sr) (l : Led) (w : World) (h : Pair w X x l) (hi : l.inv) : Calls Try.prog 93 #[.pointer (some ⟨X, 0, none⟩), .agg (St x l).toArray, .int .i64 5] w (Step w X x (x.next l 2).1.1 (x.next l 2).1.2) := by
  have hX := h.src.lt
  have hL := h.led.lt
  have hok := h.src.ok
  have HLL := next_L x l 2
  have HXL := Lib.hid (St_len x l)
  have HP := Lib.hid (fun (w0 : World) (hb : Below w.heap.size w w0) => be16_any X x l w0 (h.under hb hX hL))
  have HN := Lib.hid (fun w0 => lnumber_any x l 2 (numB (x.next l 2).2.1 false) 5 w0 hi hok (by decide) (by decide) (kind_hi 5 x l 2 (by decide)))
  have HYL := Lib.hid (St_len (x.next l 2).1.1 (x.next l 2).1.2)
  have HYO := Lib.hid (St_one (x.next l 2).1.1 (x.next l 2).1.2)
  unfold NumOf NumPost at HP
  unfold RPost at HN
  unfold Step
  obtain ⟨XS, hXS⟩ : ∃ XS, St x l = XS := ⟨_, rfl⟩
  obtain ⟨YS, hYS⟩ : ∃ YS, St (x.next l 2).1.1 (x.next l 2).1.2 = YS := ⟨_, rfl⟩
  obtain ⟨v, hv⟩ : ∃ v, numB (x.next l 2).2.1 false = v := ⟨_, rfl⟩
  obtain ⟨ok, hk⟩ : ∃ ok, (x.next l 2).2.2 = ok := ⟨_, rfl⟩
  rw [hXS] at HXL HN ⊢
  rw [hYS] at HYL HYO HN ⊢
  rw [hv] at HP HN
  rw [hk] at HP HN
  obtain ⟨y, hy⟩ : ∃ y, (x.next l 2).1.1 = y := ⟨_, rfl⟩
  obtain ⟨m, hm⟩ : ∃ m, (x.next l 2).1.2 = m := ⟨_, rfl⟩
  rw [hy] at HP HLL ⊢
  rw [hm] at HP ⊢
  clear hXS hYS hv hk hy hm h hi hok
  have O0 := Lib.hid (fun T' cs' => ((obj1_new w XS.toArray 105).alloc (.cells cs' T')))
  have O1 := Lib.hid (fun cs => obj1_new2 w (.cells XS.toArray 105) (cs := cs) (cs' := cs) 105 rfl)
  have BB := Lib.hid (fun T' cs' => (((Below.refl w.heap.size w).alloc (Nat.le_refl _) (.cells XS.toArray 105)).alloc (by simp) (.cells cs' T')))
  have CC := Lib.hid (fun T' cs' => (((Chg.refl (two X x) w).alloc (.cells XS.toArray 105)).alloc (.cells cs' T')))
  have hn0 : ∀ k, w.heap.size ≤ k → ¬ two X x k := fun k hk h => by rcases h with h | h <;> omega
  have HN0 := Lib.hid hn0
  clear hn0
  go_enter Try.func93, Try.ntmps93
  go_wp2_with (first
    | ((go_at_call 52; (with_reducible refine (HP.out _ (BB.out _ _)).mono ?_); rintro e w1 ⟨rfl, hP1, hC1⟩); have OH1 := Lib.hid (hC1.obj (O0.out _ _) (HN0.out _ (Nat.le_refl _))); have OR1 := Lib.hid (hC1.obj (O1.out _) (HN0.out _ (by omega))); have C1 := Lib.hid ((CC.out _ _).trans hC1); have HP1 := Lib.hid hP1; clear hP1 hC1)
    | (refine load_st rfl (.tmp 4) rfl w.heap.size XS HXL.out rfl OH1.out ?_)
    | ((go_at_call 109; (with_reducible refine (HN.out _).mono ?_); rintro e w2 ⟨rfl, hb2⟩); have OR2 := Lib.hid (OR1.out.below hb2 OR1.out.lt); have C2 := Lib.hid (C1.out.trans (chg_of_below hb2 _)); have HP2 := Lib.hid (HP1.out.under hb2 HP1.out.src.lt HP1.out.led.lt); clear hb2)
    | (refine store_st rfl (.tmp 6) (.tmp 60) rfl (w.heap.size + 1) YS HYL.out HYO.out rfl rfl OR2.out rfl ?_; intro w3 hst hO3; have R := Lib.hid hO3.range0; have C3 := Lib.hid (hst.chg C2.out (Or.inr (by omega))); have HP3 := Lib.hid (HP2.out.stored hst (by omega) (by rw [HLL]; omega)); clear hst hO3))
  refine bodyPost_ret (v := .tuple #[.agg YS.toArray, .bool true]) ?_ rfl ⟨rfl, HP3.out, C3.out⟩
  exact results_c1 Try.results93 _ _ _ _ _ rfl R.out Try.underlying105 rfl (by rw [HYL.out]; kernel_rfl)
set_option maxRecDepth 100000 in
set_option maxHeartbeats 2000000 in
theorem reads_6 (X : Nat) (x : Sr) (l : Led) (w : World) (h : Pair w X x l) (hi : l.inv) : Calls Try.prog 93 #[.pointer (some ⟨X, 0, none⟩), .agg (St x l).toArray, .int .i64 6] w (Step w X x (x.next l 4).1.1 (x.next l 4).1.2) := by
  have hX := h.src.lt
  have hL := h.led.lt
  have hok := h.src.ok
  have HLL := next_L x l 4
  have HXL := Lib.hid (St_len x l)
  have HP := Lib.hid (fun (w0 : World) (hb : Below w.heap.size w w0) => be32_any X x l w0 (h.under hb hX hL))
  have HN := Lib.hid (fun w0 => lnumber_any x l 4 (numB (x.next l 4).2.1 false) 6 w0 hi hok (by decide) (by decide) (kind_hi 6 x l 4 (by decide)))
  have HYL := Lib.hid (St_len (x.next l 4).1.1 (x.next l 4).1.2)
  have HYO := Lib.hid (St_one (x.next l 4).1.1 (x.next l 4).1.2)
  unfold NumOf NumPost at HP
  unfold RPost at HN
  unfold Step
  obtain ⟨XS, hXS⟩ : ∃ XS, St x l = XS := ⟨_, rfl⟩
  obtain ⟨YS, hYS⟩ : ∃ YS, St (x.next l 4).1.1 (x.next l 4).1.2 = YS := ⟨_, rfl⟩
  obtain ⟨v, hv⟩ : ∃ v, numB (x.next l 4).2.1 false = v := ⟨_, rfl⟩
  obtain ⟨ok, hk⟩ : ∃ ok, (x.next l 4).2.2 = ok := ⟨_, rfl⟩
  rw [hXS] at HXL HN ⊢
  rw [hYS] at HYL HYO HN ⊢
  rw [hv] at HP HN
  rw [hk] at HP HN
  obtain ⟨y, hy⟩ : ∃ y, (x.next l 4).1.1 = y := ⟨_, rfl⟩
  obtain ⟨m, hm⟩ : ∃ m, (x.next l 4).1.2 = m := ⟨_, rfl⟩
  rw [hy] at HP HLL ⊢
  rw [hm] at HP ⊢
  clear hXS hYS hv hk hy hm h hi hok
  have O0 := Lib.hid (fun T' cs' => ((obj1_new w XS.toArray 105).alloc (.cells cs' T')))
  have O1 := Lib.hid (fun cs => obj1_new2 w (.cells XS.toArray 105) (cs := cs) (cs' := cs) 105 rfl)
  have BB := Lib.hid (fun T' cs' => (((Below.refl w.heap.size w).alloc (Nat.le_refl _) (.cells XS.toArray 105)).alloc (by simp) (.cells cs' T')))
  have CC := Lib.hid (fun T' cs' => (((Chg.refl (two X x) w).alloc (.cells XS.toArray 105)).alloc (.cells cs' T')))
  have hn0 : ∀ k, w.heap.size ≤ k → ¬ two X x k := fun k hk h => by rcases h with h | h <;> omega
  have HN0 := Lib.hid hn0
  clear hn0
  go_enter Try.func93, Try.ntmps93
  go_wp2_with (first
    | ((go_at_call 49; (with_reducible refine (HP.out _ (BB.out _ _)).mono ?_); rintro e w1 ⟨rfl, hP1, hC1⟩); have OH1 := Lib.hid (hC1.obj (O0.out _ _) (HN0.out _ (Nat.le_refl _))); have OR1 := Lib.hid (hC1.obj (O1.out _) (HN0.out _ (by omega))); have C1 := Lib.hid ((CC.out _ _).trans hC1); have HP1 := Lib.hid hP1; clear hP1 hC1)
    | (refine load_st rfl (.tmp 4) rfl w.heap.size XS HXL.out rfl OH1.out ?_)
    | ((go_at_call 109; (with_reducible refine (HN.out _).mono ?_); rintro e w2 ⟨rfl, hb2⟩); have OR2 := Lib.hid (OR1.out.below hb2 OR1.out.lt); have C2 := Lib.hid (C1.out.trans (chg_of_below hb2 _)); have HP2 := Lib.hid (HP1.out.under hb2 HP1.out.src.lt HP1.out.led.lt); clear hb2)
    | (refine store_st rfl (.tmp 6) (.tmp 60) rfl (w.heap.size + 1) YS HYL.out HYO.out rfl rfl OR2.out rfl ?_; intro w3 hst hO3; have R := Lib.hid hO3.range0; have C3 := Lib.hid (hst.chg C2.out (Or.inr (by omega))); have HP3 := Lib.hid (HP2.out.stored hst (by omega) (by rw [HLL]; omega)); clear hst hO3))
  refine bodyPost_ret (v := .tuple #[.agg YS.toArray, .bool true]) ?_ rfl ⟨rfl, HP3.out, C3.out⟩
  exact results_c1 Try.results93 _ _ _ _ _ rfl R.out Try.underlying105 rfl (by rw [HYL.out]; kernel_rfl)
end Go.Proofs.Ytobpocdpnkicnaa

/- The law SrcPlays: readings of numbers, walked. -/
import Derived.Test.YtobpocdpnkicnaaP1
import Derived.Test.YtobpocdpnkicnaaS9
namespace Go.Proofs.Ytobpocdpnkicnaa
open Go.RowKit
set_option linter.unusedVariables false
theorem setL_get (vs : List Value) : ∀ (cs : Array Value) (o i : Nat), o + vs.length ≤ cs.size → (setL cs o vs)[i]? = if o ≤ i ∧ i < o + vs.length then vs[i - o]? else cs[i]? := by
  induction vs with
  | nil => intro cs o i h; rw [setL, if_neg (by simp)]
  | cons v r ih =>
    intro cs o i h
    rw [setL, ih _ _ _ (by simp at h ⊢; omega)]
    simp only [List.length_cons] at h ⊢
    by_cases h1 : o + 1 ≤ i ∧ i < o + 1 + r.length
    · rw [if_pos h1, if_pos (by omega), show i - o = (i - (o + 1)) + 1 by omega, List.getElem?_cons_succ]
    · rw [if_neg h1]
      by_cases h2 : i = o
      · subst h2; rw [if_pos (by omega), Nat.sub_self]; simp [Array.getElem?_setIfInBounds]; omega
      · rw [if_neg (by omega), Array.getElem?_setIfInBounds, if_neg (by omega)]
theorem setL_full (cs : Array Value) (vs : List Value) (h : vs.length = cs.size) : setL cs 0 vs = vs.toArray := by
  apply Array.ext_getElem?
  intro i
  rw [setL_get vs cs 0 i (by omega)]
  by_cases hi : i < vs.length
  · rw [if_pos (by omega)]; simp
  · rw [if_neg (by omega), Array.getElem?_eq_none (by omega)]; simp; omega
theorem St_len (x : Sr) (l : Led) : (St x l).length = 13 := rfl
theorem St_one (x : Sr) (l : Led) : (St x l).all (·.oneCell') = true := rfl
theorem Stored.full {w w2 : World} {b : Nat} {vs : List Value} {cs : Array Value} {T : TypeId} (hst : Stored w b 0 vs w2) (h : Obj1 w b cs T) (hl : vs.length = cs.size) : Obj1 w2 b vs.toArray T := by
  have := hst.obj h; rwa [setL_full _ _ hl] at this
/-- A whole state is stored over another. -/
theorem store_st {ops : Array Oper} {rest : List Oper} {op : Oper} {a : Act} {w : World} {Q : Exit → Act → World → Prop} (hgd : op.guard = none) (x y : Operand) (ho : op.op = .store 105 x y)
    (b : Nat) (YS : List Value) (hl : YS.length = 13) (h1 : YS.all (·.oneCell') = true) (hx : a.eval x = .pointer (some ⟨b, 0, none⟩)) (hy : a.eval y = .agg YS.toArray) {cs : Array Value} {T : TypeId} (hO : Obj1 w b cs T) (hs : cs.size = 13)
    (h : ∀ w2, Stored w b 0 YS w2 → Obj1 w2 b YS.toArray T → wpList Try.prog ops Q rest (a.put op.dst undef) w2) : wpList Try.prog ops Q (op :: rest) a w :=
  store_gen hgd 105 x y ho b 0 YS.toArray hx hy (by have := hO.there 0 13 (by omega); simpa [hl] using this) (by rw [List.size_toArray, hl]; kernel_rfl) (by simpa using h1)
    fun w2 hst => h w2 (by simpa using hst) ((show Stored w b 0 YS w2 by simpa using hst).full hO (by omega))
theorem load_st {ops : Array Oper} {rest : List Oper} {op : Oper} {a : Act} {w : World} {Q : Exit → Act → World → Prop} (hgd : op.guard = none) (x : Operand) (ho : op.op = .load 105 x)
    (b : Nat) (YS : List Value) (hl : YS.length = 13) (hx : a.eval x = .pointer (some ⟨b, 0, none⟩)) {T : TypeId} (hO : Obj1 w b YS.toArray T)
    (h : wpList Try.prog ops Q rest (a.put op.dst (.agg YS.toArray)) w) : wpList Try.prog ops Q (op :: rest) a w :=
  wpList_load_mid hgd 105 x ho b 0 hx YS _ hO.range0 Try.underlying105 rfl (by rw [hl]; kernel_rfl) h
def kindVal (k : Int) (s : ByteArray) : Int := if k = 4 then signed (loK s s.size) else if 4 < k then hiK s s.size else loK s s.size
/-- What the reference's reading of a number gives, if the program's was right. -/
def RPost (w : World) (YS : List Value) (e : Ending) (w' : World) : Prop := e = .returned (.tuple #[.agg YS.toArray, .bool true]) ∧ Below w.heap.size w w'
set_option maxRecDepth 100000 in
set_option maxHeartbeats 4000000 in
theorem lnumber_any (x : Sr) (l : Led) (n got k : Int) (w : World) (hi : l.inv) (hok : x.ok) (hn : 0 ≤ n) (hn4 : n ≤ 4)
    (hv : if (x.next l n).2.2 = true then got = kindVal k (x.next l n).2.1 else got = 0) : Calls Try.prog 109 #[.agg (St x l).toArray, .int .i64 n, .int .i64 got, .bool (x.next l n).2.2, .int .i64 k] w (RPost w (St (x.next l n).1.1 (x.next l n).1.2)) := by
  have HR := Lib.hid (fun w0 => (rread_any x l n w0 hi hok))
  have hsz := next_size x l n hn
  have HXL := Lib.hid (St_len x l)
  obtain ⟨XS, hXS⟩ : ∃ XS, St x l = XS := ⟨_, rfl⟩
  have HYL := Lib.hid (St_len (x.next l n).1.1 (x.next l n).1.2)
  have HYO := Lib.hid (St_one (x.next l n).1.1 (x.next l n).1.2)
  unfold rRead at HR
  obtain ⟨YS, hYS⟩ : ∃ YS, St (x.next l n).1.1 (x.next l n).1.2 = YS := ⟨_, rfl⟩
  obtain ⟨s, hs⟩ : ∃ s, (x.next l n).2.1 = s := ⟨_, rfl⟩
  obtain ⟨ok, hok'⟩ : ∃ ok, (x.next l n).2.2 = ok := ⟨_, rfl⟩
  rw [hs] at hsz hv HR
  rw [hok'] at hv HR ⊢
  rw [hYS] at HYL HYO HR ⊢
  rw [hXS] at HXL HR ⊢
  have hs4 : s.size ≤ 4 := by omega
  clear hs hok' hYS hXS hsz hi hok hn
  have O0 := Lib.hid (fun T' cs' => ((obj1_new w XS.toArray 105).alloc (.cells cs' T')))
  have O1 := Lib.hid (fun cs => obj1_new2 w (.cells XS.toArray 105) (cs := cs) (cs' := cs) 105 rfl)
  have BB := Lib.hid (fun T' cs' => (((Below.refl w.heap.size w).alloc (Nat.le_refl _) (.cells XS.toArray 105)).alloc (by simp) (.cells cs' T')))
  cases ok with
  | false =>
    rw [if_neg (by decide)] at hv
    subst hv
    go_enter Try.func109, Try.ntmps109
    go_wp2_with (first
      | (refine load_st rfl (.tmp 5) rfl w.heap.size XS HXL.out rfl (O0.out _ _) ?_)
      | ((go_at_call 94; (with_reducible refine (HR.out _).mono ?_); rintro e w1 ⟨rfl, hb1⟩); have OR1 := Lib.hid ((O1.out _).below hb1 (by simp)); have B1 := Lib.hid (bthen hb1 (BB.out _ _) (by simp; omega)); have z1 : w.heap.size + 1 < w1.heap.size := (by have := OR1.out.lt; omega); clear hb1)
      | (refine store_st rfl (.tmp 12) (.tmp 20) rfl w1.heap.size YS HYL.out HYO.out rfl rfl (obj1_new w1 _ _) rfl ?_; intro w2 hst hO2; have OY := Lib.hid hO2; have OR2 := Lib.hid (hst.oth (OR1.out.alloc _) (by omega)); have B2 := Lib.hid (hst.below (B1.out.alloc (by omega) _) (by omega)); clear hst hO2)
      | (refine load_st rfl (.tmp 12) rfl w1.heap.size YS HYL.out rfl OY.out ?_)
      | (refine store_st rfl (.tmp 10) (.tmp 25) rfl (w.heap.size + 1) YS HYL.out HYO.out rfl rfl OR2.out rfl ?_; intro w3 hst hO3; have R := Lib.hid hO3.range0; have B3 := Lib.hid (hst.below B2.out (by omega)); clear hst hO3))
    refine bodyPost_ret (v := .tuple #[.agg YS.toArray, .bool true]) ?_ rfl ⟨rfl, B3.out⟩
    exact results_c1 Try.results109 _ _ _ _ _ rfl R.out Try.underlying105 rfl (by rw [HYL.out]; kernel_rfl)
  | true =>
    rw [if_pos rfl] at hv
    have HL := Lib.hid (fun w0 => rle_any s w0 hs4)
    have HS := Lib.hid (fun w0 => rsigned_any s w0 hs4)
    have HB := Lib.hid (fun w0 => rbe_any s w0 hs4)
    unfold kindVal at hv
    by_cases k4 : k = 4
    · subst k4
      rw [if_pos rfl] at hv
      subst hv
      go_enter Try.func109, Try.ntmps109
      go_wp2_with (first
        | (refine load_st rfl (.tmp 5) rfl w.heap.size XS HXL.out rfl (O0.out _ _) ?_)
        | ((go_at_call 94; (with_reducible refine (HR.out _).mono ?_); rintro e w1 ⟨rfl, hb1⟩); have OR1 := Lib.hid ((O1.out _).below hb1 (by simp)); have B1 := Lib.hid (bthen hb1 (BB.out _ _) (by simp; omega)); have z1 : w.heap.size + 1 < w1.heap.size := (by have := OR1.out.lt; omega); clear hb1)
        | (refine store_st rfl (.tmp 12) (.tmp 20) rfl w1.heap.size YS HYL.out HYO.out rfl rfl (obj1_new w1 _ _) rfl ?_; intro w2 hst hO2; have OY := Lib.hid hO2; have OR2 := Lib.hid (hst.oth (OR1.out.alloc _) (by omega)); have B2 := Lib.hid (hst.below (B1.out.alloc (by omega) _) (by omega)); clear hst hO2)
        | (refine load_st rfl (.tmp 12) rfl w1.heap.size YS HYL.out rfl OY.out ?_)
        | (go_at_call 53; (with_reducible refine (HL.out _).mono ?_); rintro e w4 ⟨rfl, rfl⟩)
        | (go_at_call 55; (with_reducible refine (HS.out _).mono ?_); rintro e w4 ⟨rfl, rfl⟩)
        | (refine store_st rfl (.tmp 10) (.tmp 42) rfl (w.heap.size + 1) YS HYL.out HYO.out rfl rfl OR2.out rfl ?_; intro w3 hst hO3; have R := Lib.hid hO3.range0; have B3 := Lib.hid (hst.below B2.out (by omega)); clear hst hO3))
      refine bodyPost_ret (v := .tuple #[.agg YS.toArray, .bool true]) ?_ rfl ⟨rfl, B3.out⟩
      exact results_c1 Try.results109 _ _ _ _ _ rfl R.out Try.underlying105 rfl (by rw [HYL.out]; kernel_rfl)
    · have hk4 : (k == 4) = false := by rw [beq_eq_false_iff_ne]; exact k4
      rw [if_neg k4] at hv
      by_cases k5 : 4 < k
      · have hk5 : decide (k > 4) = true := by rw [decide_eq_true_iff]; exact k5
        rw [if_pos k5] at hv
        subst hv
        clear k4
        go_enter Try.func109, Try.ntmps109
        go_wp2_with (first
          | (refine load_st rfl (.tmp 5) rfl w.heap.size XS HXL.out rfl (O0.out _ _) ?_)
          | ((go_at_call 94; (with_reducible refine (HR.out _).mono ?_); rintro e w1 ⟨rfl, hb1⟩); have OR1 := Lib.hid ((O1.out _).below hb1 (by simp)); have B1 := Lib.hid (bthen hb1 (BB.out _ _) (by simp; omega)); have z1 : w.heap.size + 1 < w1.heap.size := (by have := OR1.out.lt; omega); clear hb1)
          | (refine store_st rfl (.tmp 12) (.tmp 20) rfl w1.heap.size YS HYL.out HYO.out rfl rfl (obj1_new w1 _ _) rfl ?_; intro w2 hst hO2; have OY := Lib.hid hO2; have OR2 := Lib.hid (hst.oth (OR1.out.alloc _) (by omega)); have B2 := Lib.hid (hst.below (B1.out.alloc (by omega) _) (by omega)); clear hst hO2)
          | (refine load_st rfl (.tmp 12) rfl w1.heap.size YS HYL.out rfl OY.out ?_)
          | (go_at_call 53; (with_reducible refine (HL.out _).mono ?_); rintro e w4 ⟨rfl, rfl⟩)
          | (go_at_call 54; (with_reducible refine (HB.out _).mono ?_); rintro e w4 ⟨rfl, rfl⟩)
          | (refine store_st rfl (.tmp 10) (.tmp 42) rfl (w.heap.size + 1) YS HYL.out HYO.out rfl rfl OR2.out rfl ?_; intro w3 hst hO3; have R := Lib.hid hO3.range0; have B3 := Lib.hid (hst.below B2.out (by omega)); clear hst hO3))
        refine bodyPost_ret (v := .tuple #[.agg YS.toArray, .bool true]) ?_ rfl ⟨rfl, B3.out⟩
        exact results_c1 Try.results109 _ _ _ _ _ rfl R.out Try.underlying105 rfl (by rw [HYL.out]; kernel_rfl)
      · have hk5 : decide (k > 4) = false := by rw [decide_eq_false_iff_not]; exact k5
        rw [if_neg k5] at hv
        subst hv
        clear k4
        go_enter Try.func109, Try.ntmps109
        go_wp2_with (first
          | (refine load_st rfl (.tmp 5) rfl w.heap.size XS HXL.out rfl (O0.out _ _) ?_)
          | ((go_at_call 94; (with_reducible refine (HR.out _).mono ?_); rintro e w1 ⟨rfl, hb1⟩); have OR1 := Lib.hid ((O1.out _).below hb1 (by simp)); have B1 := Lib.hid (bthen hb1 (BB.out _ _) (by simp; omega)); have z1 : w.heap.size + 1 < w1.heap.size := (by have := OR1.out.lt; omega); clear hb1)
          | (refine store_st rfl (.tmp 12) (.tmp 20) rfl w1.heap.size YS HYL.out HYO.out rfl rfl (obj1_new w1 _ _) rfl ?_; intro w2 hst hO2; have OY := Lib.hid hO2; have OR2 := Lib.hid (hst.oth (OR1.out.alloc _) (by omega)); have B2 := Lib.hid (hst.below (B1.out.alloc (by omega) _) (by omega)); clear hst hO2)
          | (refine load_st rfl (.tmp 12) rfl w1.heap.size YS HYL.out rfl OY.out ?_)
          | (go_at_call 53; (with_reducible refine (HL.out _).mono ?_); rintro e w4 ⟨rfl, rfl⟩)
          | (refine store_st rfl (.tmp 10) (.tmp 42) rfl (w.heap.size + 1) YS HYL.out HYO.out rfl rfl OR2.out rfl ?_; intro w3 hst hO3; have R := Lib.hid hO3.range0; have B3 := Lib.hid (hst.below B2.out (by omega)); clear hst hO3))
        refine bodyPost_ret (v := .tuple #[.agg YS.toArray, .bool true]) ?_ rfl ⟨rfl, B3.out⟩
        exact results_c1 Try.results109 _ _ _ _ _ rfl R.out Try.underlying105 rfl (by rw [HYL.out]; kernel_rfl)
end Go.Proofs.Ytobpocdpnkicnaa

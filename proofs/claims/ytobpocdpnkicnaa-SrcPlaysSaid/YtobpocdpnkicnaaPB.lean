/- The law SrcPlays, walked. -/
import Derived.Test.YtobpocdpnkicnaaPA
import Derived.Test.YtobpocdpnkicnaaS8
namespace Go.Proofs.Ytobpocdpnkicnaa
open Go.RowKit
set_option linter.unusedVariables false
set_option linter.unusedSimpArgs false
theorem snew_c (L : Nat) (s : ByteArray) (l : Led) (w : World) (hs : s.size ≤ 9223372036854775807) (hL : LedAt w L l) : Calls Try.prog 41 #[.pointer (some ⟨L, 0, none⟩), .string s] w fun e w' =>
      ∃ X, e = .returned (.tuple #[.pointer (some ⟨X, 0, none⟩), .int .i64 0]) ∧ Pair w' X ⟨L, s, 0, s.size, 0⟩ l ∧ w.heap.size ≤ X ∧ Below w.heap.size w w' :=
  (snew_at L s l w hs hL).mono fun e w' ⟨X, h1, h2, h3, h4⟩ => ⟨X, h1, h2, h3, chg_none h4⟩
theorem lnew_w (k : Int) (w : World) (hk : k ≤ 9223372036854775807) : Calls Try.prog 40 #[.agg #[.int .i64 0, .int .i64 0, .int .i64 0, .int .i64 k]] w fun e w' =>
      ∃ L, e = .returned (.pointer (some ⟨L, 0, none⟩)) ∧ LedAt w' L (Led.new 0 0 0 k) ∧ w.heap.size ≤ L ∧ Below w.heap.size w w' :=
  (lnew_any 0 0 0 k w (by decide) hk).mono fun e w' ⟨L, h1, h2, h3, h4⟩ => ⟨L, h1, h2, h3, chg_none h4⟩
def OneW (w : World) (X : Nat) (x : Sr) (e : Ending) (w' : World) : Prop := ∃ Z z n ZS, St z n = ZS ∧ e = .returned (.tuple #[.pointer (some ⟨Z, 0, none⟩), .agg ZS.toArray, .bool true]) ∧ Pair w' Z z n ∧ Chg (two X x) w w' ∧ (Z = X ∨ w.heap.size ≤ Z) ∧ n.inv ∧ z.L = x.L
theorem one_w (X : Nat) (x : Sr) (l : Led) (LS : List Value) (k N M : Int) (w : World) (hS : St x l = LS) (h : Pair w X x l) (hi : l.inv) :
    Calls Try.prog 65 #[.pointer (some ⟨X, 0, none⟩), .agg LS.toArray, .agg #[.int .i64 k, .int .i64 N, .int .i64 M]] w (OneW w X x) := by
  subst hS
  exact (one_any X x l k N M w h hi).mono fun e w' ⟨Z, z, n, h1, h2, h3, h4, h5, h6⟩ => ⟨Z, z, n, _, rfl, h4, h5, h6, h1, h2, h3⟩
theorem range_below {B0 : Nat} {W w1 : World} {b o : Nat} {cs : List Value} (hb : Below B0 W w1) (h : W.rangeAt b o cs) (hlt : b < B0) : w1.rangeAt b o cs := fun j v hv => ((bcell hb).1 _ _ hlt).trans (h j v hv)
theorem range3 {w : World} {b o : Nat} {x y z : Value} (h0 : w.cell? ⟨b, o, none⟩ = some x) (h1 : w.cell? ⟨b, o + 1, none⟩ = some y) (h2 : w.cell? ⟨b, o + 2, none⟩ = some z) : w.rangeAt b o [x, y, z] := fun j v hv => by
  match j with
  | 0 => simp at hv; subst hv; exact h0
  | 1 => simp at hv; subst hv; exact h1
  | 2 => simp at hv; subst hv; exact h2
  | j + 3 => simp at hv
/-- The operations as the call is given them. -/
def OpsB (w : World) (a : Option Addr) (n : Nat) (f : Nat → Int × Int × Int) : Prop := n = 0 ∨ ∃ B o, a = some ⟨B, o, none⟩ ∧ B < w.heap.size ∧ ∀ i, i < n →
  w.cell? ⟨B, o + i * 3, none⟩ = some (.int .i64 (f i).1) ∧ w.cell? ⟨B, o + i * 3 + 1, none⟩ = some (.int .i64 (f i).2.1) ∧ w.cell? ⟨B, o + i * 3 + 2, none⟩ = some (.int .i64 (f i).2.2)
theorem eq_ptr_same {P : Program} (d : Nat) (t te : TypeId) (j : TypeInfo) (W : World) (a : Addr) (h : P.underlying t = some (.pointer te)) (hj : P.info? te = some j) (hz : j.size ≠ 0) :
    (Op.equalIn (d + 1) t (.pointer (some a)) (.pointer (some a))).run P W = .ok true W := by
  simp [Op.equalIn, run_underlying h, typeInfo, sizeOf, hj, hz, run_sameAddr_same]
theorem neq_ptr_same {P : Program} (t te : TypeId) (j : TypeInfo) (W : World) (a : Addr) (h : P.underlying t = some (.pointer te)) (hj : P.info? te = some j) (hz : j.size ≠ 0) :
    (binOp .neq t (.pointer (some a)) (.pointer (some a))).run P W = .ok (.bool false) W := by
  simp only [binOp]
  simp [Op.equal, Op.maxDepth, eq_ptr_same 9999 t te j W a h hj hz]
theorem neq_led (W : World) (L : Nat) : (binOp .neq 74 (.pointer (some ⟨L, 0, none⟩)) (.pointer (some ⟨L, 0, none⟩))).run Try.prog W = .ok (.bool false) W := by
  have hz : (Try.prog.info? (Try.prog.pointee 74)).map (fun j => decide (j.size ≠ 0)) = some true := by kernel_rfl
  cases hj : Try.prog.info? (Try.prog.pointee 74) with
  | none => rw [hj] at hz; cases hz
  | some j => rw [hj] at hz; exact neq_ptr_same _ _ j W _ (by kernel_rfl) hj (by simpa using hz)
set_option maxRecDepth 100000 in
theorem splays_long (s : ByteArray) (work : Int) (v : Value) (format : Int) (w : World) (h : 300 < s.size) (hs : s.size ≤ 9223372036854775807) : Calls Try.prog 14 #[.string s, .int .i64 work, v, .int .i64 format] w (Yes5 w) := by
  go_enter Try.func14, Try.ntmps14
  go_wp2_with (go_at_call 39; (with_reducible refine (awake5 _).mono ?_); rintro e w1 ⟨rfl, hb⟩)
  go_ret
  exact ⟨rfl, hb⟩
set_option maxRecDepth 100000 in
set_option maxHeartbeats 8000000 in
theorem splays_main (s : ByteArray) (work : Int) (a : Option Addr) (n2 cap2 : Nat) (f : Nat → Int × Int × Int) (format : Int) (w : World) (h : s.size ≤ 300) (hr : OpsB w a n2 f) (hn2 : n2 ≤ 9223372036854775807) (hw : work ≤ 9223372036854775807) :
    Calls Try.prog 14 #[.string s, .int .i64 work, .slice a n2 cap2, .int .i64 format] w (Yes5 w) := by
  have G0 : decide ((s.size : Int) > 300) = false := by rw [decide_eq_false_iff_not]; omega
  have HR := Lib.hid hr
  have HW := Lib.hid (fun w0 => lnew_w work w0 hw)
  have HRN := Lib.hid (fun w0 => rnew_any work w0)
  have HNE := fun W L => neq_led W L
  clear hr hw
  go_enter Try.func14, Try.ntmps14
  go_wp2_with fail
  refine (HW.out _).mono ?_
  rintro e w1 ⟨L, rfl, hL1, hs1, hC1⟩
  have l0 := hL1.lt
  go_wp2_with fail
  refine (snew_c L s _ _ (by omega) hL1).mono ?_
  rintro e w2 ⟨X, rfl, hP2, hs2, hC2⟩
  have l1 := hP2.src.lt
  have z1 := hC1.size
  have z2 := hC2.size
  have B2 := Lib.hid (hC1.trans (hC2.mono z1))
  have HP2 := Lib.hid hP2
  have HLG := Lib.hid (sledger_any X _ w2 hP2.src)
  clear hL1 hC1 hC2 hP2
  go_wp2_with (first
    | (go_at_call 63; (with_reducible refine (HLG.out).mono ?_); rintro e w3 ⟨rfl, rfl⟩)
    | (rw [HNE]; exact id)
    | rw [HNE]
    | (go_at_call 64; (with_reducible refine (HRN.out _).mono ?_); rintro e w4 ⟨rfl, hb4⟩))
  have HB4 := Lib.hid (B2.out.trans (hb4.mono (by omega)))
  have z4 := hb4.size
  have hLX : L < w2.heap.size := by omega
  have HP4 := Lib.hid (HP2.out.under hb4 l1 hLX)
  have O12 := Lib.hid (obj1_new w4 (St ⟨L, s, 0, s.size, 0⟩ (Led.new 0 0 0 work)).toArray 105)
  have HB5 := Lib.hid (HB4.out.alloc (by omega) (.cells (St ⟨L, s, 0, s.size, 0⟩ (Led.new 0 0 0 work)).toArray 105))
  have HP5 := Lib.hid (HP4.out.under (((Below.refl w4.heap.size w4).alloc (Nat.le_refl _) (.cells (St ⟨L, s, 0, s.size, 0⟩ (Led.new 0 0 0 work)).toArray 105))) (by omega) (by show L < _; omega))
  obtain ⟨K, hK⟩ : ∃ K, w4.heap.size = K := ⟨_, rfl⟩
  obtain ⟨w5, hw5⟩ : ∃ w5, w4.alloc (.cells (St ⟨L, s, 0, s.size, 0⟩ (Led.new 0 0 0 work)).toArray 105) = w5 := ⟨_, rfl⟩
  have hs5 : K + 1 = w5.heap.size := by rw [← hw5, ← hK]; simp
  rw [hw5] at O12 HB5 HP5
  rw [hK] at O12
  have hw5' : w4.alloc (.cells #[.string s, .int .i64 0, .int .i64 s.size, .int .i64 0, .int .i64 0, .int .i64 0, .int .i64 0, .int .i64 (max work 0), .int .i64 0, .int .i64 0, .int .i64 0, .int .i64 0, .int .i64 0] 105) = w5 := hw5
  rw [hK]
  rw [hw5']
  have hXK : X ≠ K := by omega
  have hLK : L < K := by omega
  have hwK : w.heap.size ≤ K := by omega
  have hwL : w.heap.size ≤ L := by omega
  have hwX : w.heap.size ≤ X := by omega
  clear hw5' hw5 hb4 HP4 HB4 HP2 B2 HLG HRN HNE HW
  go_loopw [10, 13, 14, 15, 16, 17] (fun q10 q13 q14 q15 q16 q17 wr => ∃ i : Nat, i ≤ n2 ∧ i ≤ 80 ∧ q13 = .int .i64 i ∧ ∃ (Y : Nat) (y : Sr) (m : Led), q10 = .pointer (some ⟨Y, 0, none⟩) ∧ Pair wr Y y m ∧ m.inv ∧ y.L = L ∧ w.heap.size ≤ Y ∧ Y ≠ K ∧ Obj1 wr K (St y m).toArray 105 ∧ Below w.heap.size w wr) (fun _ q13 _ _ _ _ _ => 80 - (intOf q13).toNat)
  case atStart => exact ⟨0, by omega, by omega, rfl, X, _, _, rfl, HP5.out, ⟨by simp [Led.new], HP5.out.led.ok⟩, rfl, hwX, hXK, O12.out, HB5.out⟩
  case round =>
    obtain ⟨i, hi, hi80, rfl, Y, y, m, rfl, hP, hinv, hyL, hwY, hYK, hO, hb⟩ := hrel
    have HP := Lib.hid hP
    have HO := Lib.hid hO
    have Hb := Lib.hid hb
    clear hP hO hb HP5 O12 HB5
    by_cases hin : i < n2 ∧ i < 80
    rotate_left
    · have hfin : (n2 ≤ i) ∨ (i < n2 ∧ 80 ≤ i) := by omega
      clear hin
      rcases hfin with hge | ⟨hlt2, hge⟩
      · go_wp2_with (first
          | (go_at_call 41; (with_reducible refine (snew_nil _ _).mono ?_); rintro e w8 ⟨rfl, rfl⟩)
          | (go_at_call 39; (with_reducible refine (awake5 _).mono ?_); rintro e w9 ⟨rfl, hb9⟩))
        go_ret
        exact ⟨rfl, bthen hb9 Hb.out Hb.out.size⟩
      · go_wp2_with (first
          | (go_at_call 41; (with_reducible refine (snew_nil _ _).mono ?_); rintro e w8 ⟨rfl, rfl⟩)
          | (go_at_call 39; (with_reducible refine (awake5 _).mono ?_); rintro e w9 ⟨rfl, hb9⟩))
        go_ret
        exact ⟨rfl, bthen hb9 Hb.out Hb.out.size⟩
    obtain ⟨hi2, hi8⟩ := hin
    have D0 : decide ((i : Int) < (n2 : Int)) = true := by rw [decide_eq_true_iff]; omega
    have D1 : decide ((i : Int) < 80) = true := by rw [decide_eq_true_iff]; omega
    obtain ⟨B, o, hA, hBa, hcz⟩ := (show ∃ B o, a = some ⟨B, o, none⟩ ∧ B < w.heap.size ∧ ∀ i, i < n2 →
        w.cell? ⟨B, o + i * 3, none⟩ = some (.int .i64 (f i).1) ∧ w.cell? ⟨B, o + i * 3 + 1, none⟩ = some (.int .i64 (f i).2.1) ∧ w.cell? ⟨B, o + i * 3 + 2, none⟩ = some (.int .i64 (f i).2.2) by
      rcases HR.out with h0 | h0
      · omega
      · exact h0)
    rw [hA]
    obtain ⟨hc0, hc1, hc2⟩ := hcz i hi2
    obtain ⟨⟨k, N, M⟩, hf⟩ : ∃ q, f i = q := ⟨_, rfl⟩
    rw [hf] at hc0 hc1 hc2
    have HRB := Lib.hid (fun w0 (hb : Below w.heap.size w w0) => range_below hb (range3 hc0 hc1 hc2) hBa)
    simp only at HRB
    clear hc0 hc1 hc2 hcz hf
    have HSL := Lib.hid (St_len y m)
    have HLS0 : ∃ LS, St y m = LS := ⟨_, rfl⟩
    obtain ⟨LS, hLS⟩ := HLS0
    have HONE := Lib.hid (fun w0 hp => one_w Y y m LS k N M w0 hLS hp hinv)
    rw [hLS] at HO HSL
    have lY := HP.out.src.lt
    have lK := HO.out.lt
    have zw := Hb.out.size
    have HPD := Lib.hid (show Pair wr.drew Y y m from ⟨⟨HP.out.src.obj.drew, HP.out.src.ok, HP.out.src.ne⟩, ⟨HP.out.led.obj.drew, HP.out.led.ok⟩⟩)
    clear hLS
    go_wp2_with fail
    refine cut_region (fun a a' w' => ∃ Z z n ZS T, St z n = ZS ∧ Pair w' Z z n ∧ n.inv ∧ z.L = L ∧ w.heap.size ≤ Z ∧ Z ≠ K ∧ Z ≠ T ∧ T ≠ K ∧ T ≠ L ∧ Obj1 w' T ZS.toArray 105 ∧ Obj1 w' K LS.toArray 105 ∧ Below w.heap.size w w' ∧
      a' = (((((((((((((a.put (some 62) (.pointer (some ⟨Y, 0, none⟩))).put (some 63) (.agg LS.toArray)).put (some 64) (.slice (some ⟨B, o, none⟩) n2 cap2)).put (some 65) (.int .i64 i)).put (some 66) (.pointer (some ⟨B, o + i * 3, none⟩))).put (some 67) (.agg #[.int .i64 k, .int .i64 N, .int .i64 M])).put (some 68) (.tuple #[.pointer (some ⟨Z, 0, none⟩), .agg ZS.toArray, .bool true])).put (some 61) (.tuple #[.pointer (some ⟨Z, 0, none⟩), .agg ZS.toArray, .bool true])).put (some 69) (.pointer (some ⟨Z, 0, none⟩))).put (some 70) (.agg ZS.toArray)).put (some 71) (.bool true)).put (some 15) (.pointer (some ⟨T, 0, none⟩))).put (some 14) (.pointer (some ⟨Z, 0, none⟩))).put (some 16) (.bool true)) ?_ ?_
    · have hi : (Try.prog.info? 105).map (·.size) = some LS.length := by rw [HSL.out]; kernel_rfl
      have hi3 : (Try.prog.info? 109).map (·.size) = some [Value.int .i64 k, Value.int .i64 N, Value.int .i64 M].length := by kernel_rfl
      refine wp_region_noPanic ?_
      refine wp_region_held_drew (S := fun w' => w'.rangeAt K 0 LS ∧ w'.rangeAt B (o + i * 3) [.int .i64 k, .int .i64 N, .int .i64 M]) (by kernel_rfl) ⟨HO.out.drew.range0, HRB.out _ (bdrew Hb.out 1)⟩ (fun hHeld => ?_)
      refine wpAnyH_take (i := 0) (v := (.pointer (some ⟨Y, 0, none⟩))) rfl (by kernel_rfl) (by kernel_rfl) (by kernel_rfl) (fun _ _ _ h => h) (Or.inl ⟨by rfl, fun w _ => by go_simp⟩) hHeld ?_
      simp only [Act.put, List.setIfInBounds_toArray, List.set_cons_zero, List.set_cons_succ, List.getElem_toArray, List.getElem_cons_zero, List.getElem_cons_succ]
      refine wpAnyH_take (i := 1) rfl (by kernel_rfl) (by kernel_rfl) (by kernel_rfl) (fun _ _ _ h => h) (yieldsIf_load_mid (by rfl) 105 _ rfl K 0 rfl LS _ (fun _ h => h.1) Try.underlying105 rfl hi) hHeld ?_
      simp only [Act.put, List.setIfInBounds_toArray, List.set_cons_zero, List.set_cons_succ, List.getElem_toArray, List.getElem_cons_zero, List.getElem_cons_succ]
      refine wpAnyH_take (i := 2) (v := (.slice (some ⟨B, o, none⟩) n2 cap2)) rfl (by kernel_rfl) (by kernel_rfl) (by kernel_rfl) (fun _ _ _ h => h) (Or.inl ⟨by rfl, fun w _ => by go_simp⟩) hHeld ?_
      simp only [Act.put, List.setIfInBounds_toArray, List.set_cons_zero, List.set_cons_succ, List.getElem_toArray, List.getElem_cons_zero, List.getElem_cons_succ]
      refine wpAnyH_take (i := 3) (v := (.int .i64 i)) rfl (by kernel_rfl) (by kernel_rfl) (by kernel_rfl) (fun _ _ _ h => h) (Or.inl ⟨by rfl, fun w _ => by go_simp⟩) hHeld ?_
      simp only [Act.put, List.setIfInBounds_toArray, List.set_cons_zero, List.set_cons_succ, List.getElem_toArray, List.getElem_cons_zero, List.getElem_cons_succ]
      refine wpAnyH_take (i := 4) (v := (.pointer (some ⟨B, o + i * 3, none⟩))) rfl (by kernel_rfl) (by kernel_rfl) (by kernel_rfl) (fun _ _ _ h => h) (Or.inl ⟨by rfl, fun w _ => by go_simp⟩) hHeld ?_
      simp only [Act.put, List.setIfInBounds_toArray, List.set_cons_zero, List.set_cons_succ, List.getElem_toArray, List.getElem_cons_zero, List.getElem_cons_succ]
      refine wpAnyH_take (i := 5) rfl (by kernel_rfl) (by kernel_rfl) (by kernel_rfl) (fun _ _ _ h => h) (yieldsIf_load_mid (by rfl) 109 _ rfl B (o + i * 3) rfl [.int .i64 k, .int .i64 N, .int .i64 M] _ (fun _ h => h.2) Try.underlying109 rfl hi3) hHeld ?_
      simp only [Act.put, List.setIfInBounds_toArray, List.set_cons_zero, List.set_cons_succ, List.getElem_toArray, List.getElem_cons_zero, List.getElem_cons_succ]
      refine wpAnyH_ready (rs := [6, 11]) (by kernel_rfl) (by simp) ?_
      refine AllReadyH.cons (o := _) rfl (fun K' hK => ?_) (AllReadyH.cons (o := _) rfl (fun K' hK => ?_) AllReadyH.nil)
      · go_simp
        refine (HONE.out _ HPD.out).mono ?_
        rintro e w1 ⟨Z, z, n, ZS, hZS, rfl, hPz, hCz, hZ, hn, hzL⟩
        have HZL := Lib.hid (show ZS.length = 13 by rw [← hZS]; rfl)
        have HZO := Lib.hid (show ZS.all (·.oneCell') = true by rw [← hZS]; rfl)
        have OK1 := Lib.hid (hCz.obj HO.out.drew (by unfold two; omega))
        have HB1 := Lib.hid (chg_two (bdrew Hb.out 1) hCz hwY (by rw [hyL]; exact hwL))
        have z1 := hCz.size
        have hdz : wr.drew.heap.size = wr.heap.size := rfl
        have hwZ : w.heap.size ≤ Z := by omega
        have hZK : Z ≠ K := by omega
        have lZ := hPz.src.lt
        have lZL := hPz.led.lt
        clear hCz
        go_wp2_with fail
        refine hK.out _ _ ⟨OK1.out.range0, HRB.out _ HB1.out⟩ (fun hHeld2 => ?_)
        clear hK K'
        try simp only [Act.put, List.setIfInBounds_toArray, List.set_cons_zero, List.set_cons_succ, List.getElem_toArray, List.getElem_cons_zero, List.getElem_cons_succ]
        refine wpAnyH_take (i := 7) (v := (.tuple #[.pointer (some ⟨Z, 0, none⟩), .agg ZS.toArray, .bool true])) rfl (by kernel_rfl) (by kernel_rfl) (by kernel_rfl) (fun _ _ _ h => h) (Or.inl ⟨by rfl, fun w _ => by go_simp⟩) hHeld2 ?_
        simp only [Act.put, List.setIfInBounds_toArray, List.set_cons_zero, List.set_cons_succ, List.getElem_toArray, List.getElem_cons_zero, List.getElem_cons_succ]
        refine wpAnyH_take (i := 8) (v := (.pointer (some ⟨Z, 0, none⟩))) rfl (by kernel_rfl) (by kernel_rfl) (by kernel_rfl) (fun _ _ _ h => h) (Or.inl ⟨by rfl, fun w _ => by go_simp⟩) hHeld2 ?_
        simp only [Act.put, List.setIfInBounds_toArray, List.set_cons_zero, List.set_cons_succ, List.getElem_toArray, List.getElem_cons_zero, List.getElem_cons_succ]
        refine wpAnyH_take (i := 9) (v := (.agg ZS.toArray)) rfl (by kernel_rfl) (by kernel_rfl) (by kernel_rfl) (fun _ _ _ h => h) (Or.inl ⟨by rfl, fun w _ => by go_simp⟩) hHeld2 ?_
        simp only [Act.put, List.setIfInBounds_toArray, List.set_cons_zero, List.set_cons_succ, List.getElem_toArray, List.getElem_cons_zero, List.getElem_cons_succ]
        refine wpAnyH_take (i := 10) (v := (.bool true)) rfl (by kernel_rfl) (by kernel_rfl) (by kernel_rfl) (fun _ _ _ h => h) (Or.inl ⟨by rfl, fun w _ => by go_simp⟩) hHeld2 ?_
        simp only [Act.put, List.setIfInBounds_toArray, List.set_cons_zero, List.set_cons_succ, List.getElem_toArray, List.getElem_cons_zero, List.getElem_cons_succ]
        refine wpAnyH_ready (rs := [11]) (by kernel_rfl) (by simp) ?_
        refine AllReadyH.cons (o := _) rfl (fun K' hK => ?_) AllReadyH.nil
        rw [if_pos (by rfl)]
        go_wp2_with fail
        have OT0 := obj1_new w1 #[.string ⟨#[]⟩, .int .i64 0, .int .i64 0, .int .i64 0, .int .i64 0, .int .i64 0, .int .i64 0, .int .i64 0, .int .i64 0, .int .i64 0, .int .i64 0, .int .i64 0, .int .i64 0] 105
        have OK0 := OK1.out.alloc (.cells #[.string ⟨#[]⟩, .int .i64 0, .int .i64 0, .int .i64 0, .int .i64 0, .int .i64 0, .int .i64 0, .int .i64 0, .int .i64 0, .int .i64 0, .int .i64 0, .int .i64 0, .int .i64 0] 105)
        have HB0 := HB1.out.alloc (by omega) (.cells #[.string ⟨#[]⟩, .int .i64 0, .int .i64 0, .int .i64 0, .int .i64 0, .int .i64 0, .int .i64 0, .int .i64 0, .int .i64 0, .int .i64 0, .int .i64 0, .int .i64 0, .int .i64 0] 105)
        have HP0 := hPz.under ((Below.refl w1.heap.size w1).alloc (Nat.le_refl _) (.cells #[.string ⟨#[]⟩, .int .i64 0, .int .i64 0, .int .i64 0, .int .i64 0, .int .i64 0, .int .i64 0, .int .i64 0, .int .i64 0, .int .i64 0, .int .i64 0, .int .i64 0, .int .i64 0] 105)) lZ lZL
        refine hK.out _ _ ⟨OK0.range0, HRB.out _ HB0⟩ (fun hHeld3 => ?_)
        clear hK K'
        try simp only [Act.put, List.setIfInBounds_toArray, List.set_cons_zero, List.set_cons_succ, List.getElem_toArray, List.getElem_cons_zero, List.getElem_cons_succ]
        have OT := Lib.hid OT0
        have OK := Lib.hid OK0
        have HB2 := Lib.hid HB0
        have HP2 := Lib.hid HP0
        clear OT0 OK0 HB0 HP0
        obtain ⟨w2, hw2⟩ : ∃ w2, w1.alloc (.cells #[.string ⟨#[]⟩, .int .i64 0, .int .i64 0, .int .i64 0, .int .i64 0, .int .i64 0, .int .i64 0, .int .i64 0, .int .i64 0, .int .i64 0, .int .i64 0, .int .i64 0, .int .i64 0] 105) = w2 := ⟨_, rfl⟩
        rw [hw2] at OT OK HB2 HP2 hHeld3 ⊢
        obtain ⟨T, hT⟩ : ∃ T, w1.heap.size = T := ⟨_, rfl⟩
        rw [hT] at OT lZ lZL ⊢
        have lT : K < T := by have := OK1.out.lt; omega
        clear hw2
        refine wpAnyH_take (i := 12) (v := (.pointer (some ⟨Z, 0, none⟩))) rfl (by kernel_rfl) (by kernel_rfl) (by kernel_rfl) (fun _ _ _ h => h) (Or.inl ⟨by rfl, fun w _ => by go_simp⟩) hHeld3 ?_
        simp only [Act.put, List.setIfInBounds_toArray, List.set_cons_zero, List.set_cons_succ, List.getElem_toArray, List.getElem_cons_zero, List.getElem_cons_succ]
        refine wpAnyH_ready (rs := [13]) (by kernel_rfl) (by simp) ?_
        refine AllReadyH.cons (o := _) rfl (fun K' hK => ?_) AllReadyH.nil
        rw [if_pos (by rfl)]
        refine wp_store_mid 105 _ _ rfl T 0 (List.toArray ZS) rfl rfl (by have := OT.out.there 0 13 (by simp); simpa [HZL.out] using this) (by rw [List.size_toArray, HZL.out]; kernel_rfl) (all_oneCell_toArray (List.all_eq_true.1 HZO.out)) ?_
        simp only [Act.put, List.setIfInBounds_toArray, List.set_cons_zero, List.set_cons_succ, List.getElem_toArray, List.getElem_cons_zero, List.getElem_cons_succ]
        have hst : Stored w2 T 0 ZS (w2.setCells T 0 ZS) := rfl
        have hO3 := hst.full (T := 105) OT.out HZL.out
        have hK3 := hst.oth OK.out (by omega)
        have hP3 := Pair.stored HP2.out hst (by omega) (by omega)
        have hB3 := hst.below HB2.out (by omega)
        obtain ⟨w9, hw9⟩ : ∃ w9, w2.setCells T 0 ZS = w9 := ⟨_, rfl⟩
        rw [hw9] at hO3 hK3 hP3 hB3 ⊢
        clear hst hw9
        refine hK.out _ _ ⟨hK3.range0, HRB.out _ hB3⟩ (fun hHeld4 => ?_)
        refine wpAnyH_take (i := 14) (v := (.bool true)) rfl (by kernel_rfl) (by kernel_rfl) (by kernel_rfl) (fun _ _ _ h => h) (Or.inl ⟨by rfl, fun w _ => by go_simp⟩) hHeld4 ?_
        simp only [Act.put, List.setIfInBounds_toArray, List.set_cons_zero, List.set_cons_succ, List.getElem_toArray, List.getElem_cons_zero, List.getElem_cons_succ]
        refine wpAnyH_done (by kernel_rfl) ?_ _
        refine NoPanic.normal ?_
        exact ⟨rfl, Z, z, n, ZS, T, hZS, hP3, hn, hzL.trans hyL, hwZ, by omega, by omega, by omega, by omega, hO3, hK3, hB3, rfl⟩
      · rw [if_pos (by rfl)]
        go_wp2_with fail
        have OT0 := (obj1_new wr #[.string ⟨#[]⟩, .int .i64 0, .int .i64 0, .int .i64 0, .int .i64 0, .int .i64 0, .int .i64 0, .int .i64 0, .int .i64 0, .int .i64 0, .int .i64 0, .int .i64 0, .int .i64 0] 105).drew
        have OK0 := (HO.out.alloc (.cells #[.string ⟨#[]⟩, .int .i64 0, .int .i64 0, .int .i64 0, .int .i64 0, .int .i64 0, .int .i64 0, .int .i64 0, .int .i64 0, .int .i64 0, .int .i64 0, .int .i64 0, .int .i64 0] 105)).drew
        have HB0 : Below w.heap.size w ((wr.alloc (.cells #[.string ⟨#[]⟩, .int .i64 0, .int .i64 0, .int .i64 0, .int .i64 0, .int .i64 0, .int .i64 0, .int .i64 0, .int .i64 0, .int .i64 0, .int .i64 0, .int .i64 0, .int .i64 0] 105)).drew) := bdrew (Hb.out.alloc (by omega) (.cells #[.string ⟨#[]⟩, .int .i64 0, .int .i64 0, .int .i64 0, .int .i64 0, .int .i64 0, .int .i64 0, .int .i64 0, .int .i64 0, .int .i64 0, .int .i64 0, .int .i64 0, .int .i64 0] 105)) 1
        have HPA := HP.out.under ((Below.refl wr.heap.size wr).alloc (Nat.le_refl _) (.cells #[.string ⟨#[]⟩, .int .i64 0, .int .i64 0, .int .i64 0, .int .i64 0, .int .i64 0, .int .i64 0, .int .i64 0, .int .i64 0, .int .i64 0, .int .i64 0, .int .i64 0, .int .i64 0] 105)) (by omega) (by have := HP.out.led.lt; omega)
        have HP0 : Pair ((wr.alloc (.cells #[.string ⟨#[]⟩, .int .i64 0, .int .i64 0, .int .i64 0, .int .i64 0, .int .i64 0, .int .i64 0, .int .i64 0, .int .i64 0, .int .i64 0, .int .i64 0, .int .i64 0, .int .i64 0] 105)).drew) Y y m := ⟨⟨HPA.src.obj.drew, HPA.src.ok, HPA.src.ne⟩, ⟨HPA.led.obj.drew, HPA.led.ok⟩⟩
        refine hK.out _ _ ⟨OK0.range0, HRB.out _ HB0⟩ (fun hHeld2 => ?_)
        clear hK K'
        try simp only [Act.put, List.setIfInBounds_toArray, List.set_cons_zero, List.set_cons_succ, List.getElem_toArray, List.getElem_cons_zero, List.getElem_cons_succ]
        have OT1 := Lib.hid OT0
        have OK1 := Lib.hid OK0
        have HB1 := Lib.hid HB0
        have HP1 := Lib.hid HP0
        have lT0 := OT0.lt
        clear OT0 OK0 HB0 HP0 HPA
        obtain ⟨w1, hw1⟩ : ∃ w1, (wr.alloc (.cells #[.string ⟨#[]⟩, .int .i64 0, .int .i64 0, .int .i64 0, .int .i64 0, .int .i64 0, .int .i64 0, .int .i64 0, .int .i64 0, .int .i64 0, .int .i64 0, .int .i64 0, .int .i64 0] 105)).drew = w1 := ⟨_, rfl⟩
        obtain ⟨T, hT⟩ : ∃ T, wr.heap.size = T := ⟨_, rfl⟩
        have hs1 : w1.heap.size = T + 1 := by rw [← hw1, ← hT]; show (wr.alloc _).heap.size = _; simp
        rw [hw1] at OT1 OK1 HB1 HP1 hHeld2 ⊢
        rw [hT] at OT1 ⊢
        have lT : K < T := by omega
        refine wpAnyH_ready (rs := [6]) (by kernel_rfl) (by simp) ?_
        refine AllReadyH.cons (o := _) rfl (fun K' hK => ?_) AllReadyH.nil
        go_simp
        refine (HONE.out _ HP1.out).mono ?_
        rintro e w2 ⟨Z, z, n, ZS, hZS, rfl, hPz, hCz, hZ, hn, hzL⟩
        have HZL := Lib.hid (show ZS.length = 13 by rw [← hZS]; rfl)
        have HZO := Lib.hid (show ZS.all (·.oneCell') = true by rw [← hZS]; rfl)
        have OK := Lib.hid (hCz.obj OK1.out (by unfold two; omega))
        have OT := Lib.hid (hCz.obj OT1.out (by unfold two; omega))
        have HB2 := Lib.hid (chg_two HB1.out hCz hwY (by rw [hyL]; exact hwL))
        have HP2 := Lib.hid hPz
        have z1 := hCz.size
        have hwZ : w.heap.size ≤ Z := by omega
        clear hCz
        go_wp2_with fail
        refine hK.out _ _ ⟨OK.out.range0, HRB.out _ HB2.out⟩ (fun hHeld2 => ?_)
        clear hK K'
        try simp only [Act.put, List.setIfInBounds_toArray, List.set_cons_zero, List.set_cons_succ, List.getElem_toArray, List.getElem_cons_zero, List.getElem_cons_succ]
        refine wpAnyH_take (i := 7) (v := (.tuple #[.pointer (some ⟨Z, 0, none⟩), .agg ZS.toArray, .bool true])) rfl (by kernel_rfl) (by kernel_rfl) (by kernel_rfl) (fun _ _ _ h => h) (Or.inl ⟨by rfl, fun w _ => by go_simp⟩) hHeld2 ?_
        simp only [Act.put, List.setIfInBounds_toArray, List.set_cons_zero, List.set_cons_succ, List.getElem_toArray, List.getElem_cons_zero, List.getElem_cons_succ]
        refine wpAnyH_take (i := 8) (v := (.pointer (some ⟨Z, 0, none⟩))) rfl (by kernel_rfl) (by kernel_rfl) (by kernel_rfl) (fun _ _ _ h => h) (Or.inl ⟨by rfl, fun w _ => by go_simp⟩) hHeld2 ?_
        simp only [Act.put, List.setIfInBounds_toArray, List.set_cons_zero, List.set_cons_succ, List.getElem_toArray, List.getElem_cons_zero, List.getElem_cons_succ]
        refine wpAnyH_take (i := 9) (v := (.agg ZS.toArray)) rfl (by kernel_rfl) (by kernel_rfl) (by kernel_rfl) (fun _ _ _ h => h) (Or.inl ⟨by rfl, fun w _ => by go_simp⟩) hHeld2 ?_
        simp only [Act.put, List.setIfInBounds_toArray, List.set_cons_zero, List.set_cons_succ, List.getElem_toArray, List.getElem_cons_zero, List.getElem_cons_succ]
        refine wpAnyH_take (i := 10) (v := (.bool true)) rfl (by kernel_rfl) (by kernel_rfl) (by kernel_rfl) (fun _ _ _ h => h) (Or.inl ⟨by rfl, fun w _ => by go_simp⟩) hHeld2 ?_
        simp only [Act.put, List.setIfInBounds_toArray, List.set_cons_zero, List.set_cons_succ, List.getElem_toArray, List.getElem_cons_zero, List.getElem_cons_succ]
        have hHeld3 := hHeld2
        refine wpAnyH_take (i := 12) (v := (.pointer (some ⟨Z, 0, none⟩))) rfl (by kernel_rfl) (by kernel_rfl) (by kernel_rfl) (fun _ _ _ h => h) (Or.inl ⟨by rfl, fun w _ => by go_simp⟩) hHeld3 ?_
        simp only [Act.put, List.setIfInBounds_toArray, List.set_cons_zero, List.set_cons_succ, List.getElem_toArray, List.getElem_cons_zero, List.getElem_cons_succ]
        refine wpAnyH_ready (rs := [13]) (by kernel_rfl) (by simp) ?_
        refine AllReadyH.cons (o := _) rfl (fun K' hK => ?_) AllReadyH.nil
        rw [if_pos (by rfl)]
        refine wp_store_mid 105 _ _ rfl T 0 (List.toArray ZS) rfl rfl (by have := OT.out.there 0 13 (by simp); simpa [HZL.out] using this) (by rw [List.size_toArray, HZL.out]; kernel_rfl) (all_oneCell_toArray (List.all_eq_true.1 HZO.out)) ?_
        simp only [Act.put, List.setIfInBounds_toArray, List.set_cons_zero, List.set_cons_succ, List.getElem_toArray, List.getElem_cons_zero, List.getElem_cons_succ]
        have hst : Stored w2 T 0 ZS (w2.setCells T 0 ZS) := rfl
        have hO3 := hst.full (T := 105) OT.out HZL.out
        have hK3 := hst.oth OK.out (by omega)
        have hP3 := Pair.stored HP2.out hst (by omega) (by omega)
        have hB3 := hst.below HB2.out (by omega)
        obtain ⟨w9, hw9⟩ : ∃ w9, w2.setCells T 0 ZS = w9 := ⟨_, rfl⟩
        rw [hw9] at hO3 hK3 hP3 hB3 ⊢
        clear hst hw9
        refine hK.out _ _ ⟨hK3.range0, HRB.out _ hB3⟩ (fun hHeld4 => ?_)
        refine wpAnyH_take (i := 14) (v := (.bool true)) rfl (by kernel_rfl) (by kernel_rfl) (by kernel_rfl) (fun _ _ _ h => h) (Or.inl ⟨by rfl, fun w _ => by go_simp⟩) hHeld4 ?_
        simp only [Act.put, List.setIfInBounds_toArray, List.set_cons_zero, List.set_cons_succ, List.getElem_toArray, List.getElem_cons_zero, List.getElem_cons_succ]
        refine wpAnyH_done (by kernel_rfl) ?_ _
        refine NoPanic.normal ?_
        exact ⟨rfl, Z, z, n, ZS, T, hZS, hP3, hn, hzL.trans hyL, hwZ, by omega, by omega, by omega, by omega, hO3, hK3, hB3, rfl⟩
    · rintro a' w3 ⟨Z, z, n, ZS, T, hZS, hPz, hn, hzL, hwZ, hZK, hZT, hTK, hTL, hOT, hOK, hB, rfl⟩
      simp only [Act.put, List.setIfInBounds_toArray, List.set_cons_zero, List.set_cons_succ, List.getElem_toArray, List.getElem_cons_zero, List.getElem_cons_succ]
      have HP3 := Lib.hid hPz
      have OT3 := Lib.hid hOT
      have OK3 := Lib.hid hOK
      have HB3 := Lib.hid hB
      clear hPz hOT hOK hB HP HO Hb HRB HONE
      have HZL := Lib.hid (show ZS.length = 13 by rw [← hZS]; rfl)
      have HZO := Lib.hid (show ZS.all (·.oneCell') = true by rw [← hZS]; rfl)
      have hiZ : (Try.prog.info? 105).map (·.size) = some ZS.length := by rw [HZL.out]; kernel_rfl
      go_wp2_with fail
      refine wp_region_noPanic ?_
      refine wp_region_held_drew (S := fun w' => w'.rangeAt T 0 ZS) (by kernel_rfl) OT3.out.drew.range0 (fun hHeld => ?_)
      refine wpAnyH_take (i := 0) (v := (.pointer (some ⟨Z, 0, none⟩))) rfl (by kernel_rfl) (by kernel_rfl) (by kernel_rfl) (fun _ _ _ h => h) (Or.inl ⟨by rfl, fun w _ => by go_simp⟩) hHeld ?_
      simp only [Act.put, List.setIfInBounds_toArray, List.set_cons_zero, List.set_cons_succ, List.getElem_toArray, List.getElem_cons_zero, List.getElem_cons_succ]
      refine wpAnyH_take (i := 1) rfl (by kernel_rfl) (by kernel_rfl) (by kernel_rfl) (fun _ _ _ h => h) (yieldsIf_load_mid (by rfl) 105 _ rfl T 0 rfl ZS _ (fun _ h => h) Try.underlying105 rfl hiZ) hHeld ?_
      simp only [Act.put, List.setIfInBounds_toArray, List.set_cons_zero, List.set_cons_succ, List.getElem_toArray, List.getElem_cons_zero, List.getElem_cons_succ]
      refine wpAnyH_take (i := 2) (v := (.pointer (some ⟨Z, 0, none⟩))) rfl (by kernel_rfl) (by kernel_rfl) (by kernel_rfl) (fun _ _ _ h => h) (Or.inl ⟨by rfl, fun w _ => by go_simp⟩) hHeld ?_
      simp only [Act.put, List.setIfInBounds_toArray, List.set_cons_zero, List.set_cons_succ, List.getElem_toArray, List.getElem_cons_zero, List.getElem_cons_succ]
      refine wpAnyH_ready (rs := [3]) (by kernel_rfl) (by simp) ?_
      refine AllReadyH.cons (o := _) rfl (fun K' hK => ?_) AllReadyH.nil
      rw [if_pos (by rfl)]
      refine wp_store_mid 105 _ _ rfl K 0 (List.toArray ZS) rfl rfl (by have := OK3.out.drew.there 0 13 (by simp [HSL.out]); simpa [HZL.out] using this) (by rw [List.size_toArray]; exact hiZ) (all_oneCell_toArray (List.all_eq_true.1 HZO.out)) ?_
      simp only [Act.put, List.setIfInBounds_toArray, List.set_cons_zero, List.set_cons_succ, List.getElem_toArray, List.getElem_cons_zero, List.getElem_cons_succ]
      have hst : Stored w3.drew K 0 ZS (w3.drew.setCells K 0 ZS) := rfl
      have hO4 := hst.full (T := 105) OK3.out.drew (by simp [HSL.out, HZL.out])
      have hT4 := hst.oth OT3.out.drew hTK
      have hP4 := Pair.stored (⟨⟨HP3.out.src.obj.drew, HP3.out.src.ok, HP3.out.src.ne⟩, ⟨HP3.out.led.obj.drew, HP3.out.led.ok⟩⟩ : Pair w3.drew Z z n) hst hZK (by omega)
      have hB4 := hst.below (bdrew HB3.out 1) hwK
      obtain ⟨w9, hw9⟩ : ∃ w9, w3.drew.setCells K 0 ZS = w9 := ⟨_, rfl⟩
      rw [hw9] at hO4 hT4 hP4 hB4 ⊢
      clear hst hw9
      refine hK.out _ _ hT4.range0 (fun hHeld4 => ?_)
      refine wpAnyH_done (by kernel_rfl) ?_ _
      refine NoPanic.normal ?_
      clear hK K'
      have c1 : w9.cell? ⟨K, 1, none⟩ = some (.int .i64 z.b) := by have := hO4.cell 1; rw [← hZS] at this; exact this.trans rfl
      have c2 : w9.cell? ⟨K, 2, none⟩ = some (.int .i64 z.e) := by have := hO4.cell 2; rw [← hZS] at this; exact this.trans rfl
      have c3 : w9.cell? ⟨K, 3, none⟩ = some (.int .i64 z.p) := by have := hO4.cell 3; rw [← hZS] at this; exact this.trans rfl
      have c10 : w9.cell? ⟨K, 10, none⟩ = some (.int .i64 n.st) := by have := hO4.cell 10; rw [← hZS] at this; exact this.trans rfl
      have c11 : w9.cell? ⟨K, 11, none⟩ = some (.int .i64 n.rs) := by have := hO4.cell 11; rw [← hZS] at this; exact this.trans rfl
      have okz := hP4.src.ok
      have oz1 := okz.bp
      have oz2 := okz.pe
      have oz3 := okz.es
      have oz4 := okz.sz
      have hLz := hzL
      have HP9 := Lib.hid hP4
      have HB9 := Lib.hid hB4
      have HO9 := Lib.hid hO4
      have hle : ((z.e : Int) - z.p) ≤ 9223372036854775807 := by omega
      have hge : 0 ≤ ((z.e : Int) - z.p) := by omega
      have HAT := Lib.hid (fun q => (at_any Z z (w9.drewN q) (HP9.out.src.drewN q)).mono (R' := fun e w' => e = .returned (.int .i64 z.p) ∧ w' = w9.drewN q) fun e w' hh => ⟨hh.1, hh.2.symm⟩)
      have HFR := Lib.hid (fun q => (from_any Z z (w9.drewN q) (HP9.out.src.drewN q)).mono (R' := fun e w' => e = .returned (.int .i64 z.b) ∧ w' = w9.drewN q) fun e w' hh => ⟨hh.1, hh.2.symm⟩)
      have HTO := Lib.hid (fun q => (to_any Z z (w9.drewN q) (HP9.out.src.drewN q)).mono (R' := fun e w' => e = .returned (.int .i64 z.e) ∧ w' = w9.drewN q) fun e w' hh => ⟨hh.1, hh.2.symm⟩)
      have HST := Lib.hid (fun q => (steps_any L n (w9.drewN q) (by have := HP9.out.led.drewN q; rwa [hzL] at this)).mono (R' := fun e w' => e = .returned (.int .i64 n.st) ∧ w' = w9.drewN q) fun e w' hh => ⟨hh.1, hh.2.symm⟩)
      have HLF := Lib.hid (fun q => (left_any Z z (w9.drewN q) (HP9.out.src.drewN q)).mono (R' := fun e w' => e = .returned (.int .i64 ((z.e : Int) - z.p)) ∧ ∃ m, w' = (w9.drewN q).drewN m) fun e w' hh => ⟨hh.1, hh.2.imp fun _ h => h.symm⟩)
      clear hHeld4 hO4 hT4 hP4 hB4 HP3 OT3 OK3 HB3
      go_wp2_with fail
      go_quiet ((first | (go_at_call 44; exact Calls.quiet_of_same (HAT.out _)) | (go_at_call 66; exact Calls.quiet_of_same (HFR.out _)) | (go_at_call 67; exact Calls.quiet_of_same (HTO.out _)) | (go_at_call 46; exact Calls.quiet_of_same (HST.out _)) | (go_at_call 45; exact Calls.quiet_of (HLF.out _))))
      generalize hwq : w9.drewN _ = wq
      have HPq : Pair wq Z z n := by rw [← hwq]; exact ⟨HP9.out.src.drewN _, HP9.out.led.drewN _⟩
      have HOq : Obj1 wq K ZS.toArray 105 := by rw [← hwq]; exact HO9.out.drewN _
      have HBq : Below w.heap.size w wq := by rw [← hwq]; exact bdrew HB9.out _
      have HPQ := Lib.hid HPq
      have HOQ := Lib.hid HOq
      have HBQ := Lib.hid HBq
      have d1 : wq.cell? ⟨K, 1, none⟩ = some (.int .i64 z.b) := by have := HOq.cell 1; rw [← hZS] at this; exact this.trans rfl
      have d2 : wq.cell? ⟨K, 2, none⟩ = some (.int .i64 z.e) := by have := HOq.cell 2; rw [← hZS] at this; exact this.trans rfl
      have d3 : wq.cell? ⟨K, 3, none⟩ = some (.int .i64 z.p) := by have := HOq.cell 3; rw [← hZS] at this; exact this.trans rfl
      have d11 : wq.cell? ⟨K, 11, none⟩ = some (.int .i64 n.rs) := by have := HOq.cell 11; rw [← hZS] at this; exact this.trans rfl
      have lKq := HOq.lt
      clear HAT HFR HTO HST HLF HP9 HB9 HO9 c1 c2 c3 c10 c11 hwq HPq HOq HBq
      by_cases hrs : n.rs = 0
      · rw [hrs] at d11
        have hbr : n.br = false := by have := hn.rs; rw [hrs] at this; simpa using this
        have hfv : z.fault n format = .agg #[.int .i64 1, .int .i64 format, .int .i64 z.e] := by unfold Sr.fault; rw [hbr]; rfl
        have HFA := Lib.hid (fun w0 (hk : KP (wq.heap.size + 1) (wq.alloc (.cells #[.int .i64 1, .int .i64 format, .int .i64 z.e] 111)) w0) => (fault_any Z z n format w0 (HPQ.out.under (bthen hk.1 ((Below.refl wq.heap.size wq).alloc (Nat.le_refl _) _) (by simp)) HPQ.out.src.lt HPQ.out.led.lt)).mono (R' := fun e w' => e = .returned (.agg #[.int .i64 1, .int .i64 format, .int .i64 z.e]) ∧ Below w0.heap.size w0 w') fun e w' hh => ⟨hh.1.trans (by rw [hfv]), hh.2⟩)
        clear hfv
        go_wp2_with fail
        go_region_held3 (fun w' => KP (wq.heap.size + 1) (wq.alloc (.cells #[.int .i64 1, .int .i64 format, .int .i64 z.e] 111)) w')
          (first | exact kp_next (by assumption) hbf | exact kp_drew (kp_refl (by simp)))
          ((go_at_call 68; (with_reducible refine (HFA.out _ (by assumption)).mono ?_); rintro e w10 ⟨rfl, hbf⟩))
        rename_i hH
        have HW := Lib.hid (show Below wq.heap.size wq w10 from bthen hH.1 ((Below.refl wq.heap.size wq).alloc (Nat.le_refl _) _) (by simp))
        clear hH
        go_wp2_with fail
        go_roundw
        case rel => exact ⟨i + 1, by omega, by omega, by go_num, Z, z, n, rfl, HPQ.out.under HW.out HPQ.out.src.lt HPQ.out.led.lt, hn, hzL, hwZ, hZK, (by rw [hZS]; exact HOQ.out.below HW.out lKq), HBQ.out.trans (HW.out.mono HBQ.out.size)⟩
        case measure => simp [intOf]; omega
      · have hbr : n.br = true := hn.rs.2 hrs
        have drs : (n.rs == 0) = false := by simpa using hrs
        have drs2 : (n.rs != 0) = true := by simpa using hrs
        have hfv : z.fault n format = .agg #[.int .i64 4, .int .i64 format, .int .i64 z.p] := by unfold Sr.fault; rw [hbr]; rfl
        have HFA := Lib.hid (fun w0 (hk : KP (wq.heap.size + 1) (wq.alloc (.cells #[.int .i64 4, .int .i64 format, .int .i64 z.p] 111)) w0) => (fault_any Z z n format w0 (HPQ.out.under (bthen hk.1 ((Below.refl wq.heap.size wq).alloc (Nat.le_refl _) _) (by simp)) HPQ.out.src.lt HPQ.out.led.lt)).mono (R' := fun e w' => e = .returned (.agg #[.int .i64 4, .int .i64 format, .int .i64 z.p]) ∧ Below w0.heap.size w0 w') fun e w' hh => ⟨hh.1.trans (by rw [hfv]), hh.2⟩)
        clear hfv
        go_wp2_with fail
        go_region_held3 (fun w' => KP (wq.heap.size + 1) (wq.alloc (.cells #[.int .i64 4, .int .i64 format, .int .i64 z.p] 111)) w')
          (first | exact kp_next (by assumption) hbf | exact kp_drew (kp_refl (by simp)))
          ((go_at_call 68; (with_reducible refine (HFA.out _ (by assumption)).mono ?_); rintro e w10 ⟨rfl, hbf⟩))
        rename_i hH
        have HW := Lib.hid (show Below wq.heap.size wq w10 from bthen hH.1 ((Below.refl wq.heap.size wq).alloc (Nat.le_refl _) _) (by simp))
        clear hH
        go_wp2_with fail
        go_roundw
        case rel => exact ⟨i + 1, by omega, by omega, by go_num, Z, z, n, rfl, HPQ.out.under HW.out HPQ.out.src.lt HPQ.out.led.lt, hn, hzL, hwZ, hZK, (by rw [hZS]; exact HOQ.out.below HW.out lKq), HBQ.out.trans (HW.out.mono HBQ.out.size)⟩
        case measure => simp [intOf]; omega
end Go.Proofs.Ytobpocdpnkicnaa

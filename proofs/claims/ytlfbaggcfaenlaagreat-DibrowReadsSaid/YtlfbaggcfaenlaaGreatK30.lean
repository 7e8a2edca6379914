/- The reference of layer 10: Entry, of three or four bytes; walked. -/
import Derived.Test.YtlfbaggcfaenlaaGreatK24
import Derived.Test.YtlfbaggcfaenlaaGreatK19
import Derived.Test.YtlfbaggcfaenlaaGreatK0
namespace Go.Proofs.YtlfbaggcfaenlaaGreat
open Go.RowKit
set_option linter.unusedVariables false
set_option linter.unusedSimpArgs false
def entC (s : ByteArray) : List Value := [.int .u8 (byN s 2), .int .u8 (byN s 1), .int .u8 (byN s 0), .int .u8 255]
set_option maxRecDepth 100000 in
set_option maxHeartbeats 4000000 in
theorem entry10_any (s : ByteArray) (k : Int) (w : World) (hs : 3 ≤ s.size) (hk : k = 3 ∨ k = 4) : Calls Tryz.prog 104 #[.string s, .int .i64 k] w (RA w (entC s)) := by
  have e2 : (k == 2) = false := by rcases hk with rfl | rfl <;> rfl
  have e5 : (k == 5) = false := by rcases hk with rfl | rfl <;> rfl
  have q0 : 0 < s.size := by omega
  have q1 : 1 < s.size := by omega
  have q2 : 2 < s.size := by omega
  have O4 := Hi (obj1_new w #[.int .u8 0, .int .u8 0, .int .u8 0, .int .u8 0] 185)
  have BL := Hi ((Below.refl w.heap.size w).alloc (Nat.le_refl _) (.cells #[.int .u8 0, .int .u8 0, .int .u8 0, .int .u8 0] 185))
  have g0 := byN_get s 0 q0
  have g1 := byN_get s 1 q1
  have g2 := byN_get s 2 q2
  clear hk hs
  go_enter Tryz.func104, Tryz.ntmps104
  go_upto_region 4 with (fail)
  generalize World.alloc _ _ = w1 at O4 BL ⊢
  refine wp_region_noPanic ?_
  refine wp_region_held_drew (S := fun w' => True) (by kernel_rfl) trivial (fun hHeld => ?_)
  refine wpAnyH_take (i := 0) (v := .string s) rfl (by kernel_rfl) (by kernel_rfl) (by kernel_rfl) (fun _ _ _ h => h) (Or.inl ⟨by rfl, fun w hS => by go_simp⟩) hHeld ?_
  simp only [Act.put, zq1, zq2, zq3, zq4, zq5, zq6]
  refine wpAnyH_take (i := 1) (v := .int .u8 (byN s 2)) rfl (by kernel_rfl) (by kernel_rfl) (by kernel_rfl) (fun _ _ _ h => h) (Or.inl ⟨by rfl, fun wx _ => by (go_simp) <;> first | rfl | assumption | (intro hh; exfalso; omega)⟩) hHeld ?_
  simp only [Act.put, zq1, zq2, zq3, zq4, zq5, zq6]
  refine wpAnyH_take (i := 2) (v := .string s) rfl (by kernel_rfl) (by kernel_rfl) (by kernel_rfl) (fun _ _ _ h => h) (Or.inl ⟨by rfl, fun w hS => by go_simp⟩) hHeld ?_
  simp only [Act.put, zq1, zq2, zq3, zq4, zq5, zq6]
  refine wpAnyH_take (i := 3) (v := .int .u8 (byN s 1)) rfl (by kernel_rfl) (by kernel_rfl) (by kernel_rfl) (fun _ _ _ h => h) (Or.inl ⟨by rfl, fun wx _ => by (go_simp) <;> first | rfl | assumption | (intro hh; exfalso; omega)⟩) hHeld ?_
  simp only [Act.put, zq1, zq2, zq3, zq4, zq5, zq6]
  refine wpAnyH_take (i := 4) (v := .string s) rfl (by kernel_rfl) (by kernel_rfl) (by kernel_rfl) (fun _ _ _ h => h) (Or.inl ⟨by rfl, fun w hS => by go_simp⟩) hHeld ?_
  simp only [Act.put, zq1, zq2, zq3, zq4, zq5, zq6]
  refine wpAnyH_take (i := 5) (v := .int .u8 (byN s 0)) rfl (by kernel_rfl) (by kernel_rfl) (by kernel_rfl) (fun _ _ _ h => h) (Or.inl ⟨by rfl, fun wx _ => by (go_simp) <;> first | rfl | assumption | (intro hh; exfalso; omega)⟩) hHeld ?_
  simp only [Act.put, zq1, zq2, zq3, zq4, zq5, zq6]
  refine wpAnyH_take (i := 6) (v := .agg (List.toArray [.int .u8 (byN s 2), .int .u8 (byN s 1), .int .u8 (byN s 0), .int .u8 255])) rfl (by kernel_rfl) (by kernel_rfl) (by kernel_rfl) (fun _ _ _ h => h) (Or.inl ⟨by rfl, fun w hS => by go_simp⟩) hHeld ?_
  simp only [Act.put, zq1, zq2, zq3, zq4, zq5, zq6]
  have O4 := Hi (O4.out.drew)
  have BL := Hi BL.out.drew
  generalize World.drew _ = wk at O4 BL ⊢
  refine wpAnyH_ready (rs := [7]) (by kernel_rfl) (by simp) ?_
  refine AllReadyH.cons (o := _) rfl (fun K' hK => ?_) AllReadyH.nil
  go_simp
  have O6 := Hi (obj1_new wk #[.int .u8 0, .int .u8 0, .int .u8 0, .int .u8 0] 185)
  have l6k := O4.out.lt
  have O4 := Hi (O4.out.alloc (.cells #[.int .u8 0, .int .u8 0, .int .u8 0, .int .u8 0] 185))
  have BL := Hi (BL.out.alloc BL.out.size (.cells #[.int .u8 0, .int .u8 0, .int .u8 0, .int .u8 0] 185))
  obtain ⟨d, hd⟩ : ∃ d, wk.heap.size = d := ⟨_, rfl⟩
  have hdw : w.heap.size ≤ d := by rw [← hd]; omega
  rw [hd] at O6 l6k ⊢
  clear hd
  generalize World.alloc wk _ = wk2 at O4 O6 BL ⊢
  refine hK _ _ trivial (fun hA1 => ?_)
  clear hK K'
  try simp only [Act.put, zq1, zq2, zq3, zq4, zq5, zq6]
  obtain ⟨wk, rfl⟩ : ∃ z, z = wk2 := ⟨_, rfl⟩
  refine wpAnyH_ready (rs := [8]) (by kernel_rfl) (by simp) ?_
  refine AllReadyH.cons (o := _) rfl (fun K' hK => ?_) AllReadyH.nil
  rw [if_pos (by rfl)]
  refine wp_store_mid 185 _ _ rfl (d) 0 (List.toArray [.int .u8 (byN s 2), .int .u8 (byN s 1), .int .u8 (byN s 0), .int .u8 255]) rfl rfl (O6.out.there 0 4 (by simp)) (by kernel_rfl) (all_oneCell_toArray (List.all_eq_true.1 (by rfl))) ?_
  simp only [Act.put, zq1, zq2, zq3, zq4, zq5, zq6]
  have hst : Stored wk (d) 0 [.int .u8 (byN s 2), .int .u8 (byN s 1), .int .u8 (byN s 0), .int .u8 255] (wk.setCells (d) 0 [.int .u8 (byN s 2), .int .u8 (byN s 1), .int .u8 (byN s 0), .int .u8 255]) := rfl
  have O6 := Hi (hst.whole O6.out (by first | rfl | simp))
  have O4 := Hi (hst.oth O4.out (by omega))
  have BL := Hi (hst.below BL.out (by omega))
  generalize World.setCells _ _ _ _ = wk2 at O4 O6 BL ⊢
  clear hst
  refine hK _ _ trivial (fun hH1 => ?_)
  clear hK K'
  obtain ⟨wk, rfl⟩ : ∃ z, z = wk2 := ⟨_, rfl⟩
  refine wpAnyH_done (by kernel_rfl) ?_ _
  refine NoPanic.normal ?_
  go_upto_region 7 with (fail)
  go_wp2_with (first
    | (refine load_u (by kernel_rfl) 185 4 _ rfl d [.int .u8 (byN s 2), .int .u8 (byN s 1), .int .u8 (byN s 0), .int .u8 255] rfl rfl O6.out Tryz.underlying185 rfl (by kernel_rfl) ?_; intro _)
    | (refine store_o rfl 185 4 _ _ rfl w.heap.size [.int .u8 (byN s 2), .int .u8 (byN s 1), .int .u8 (byN s 0), .int .u8 255] rfl rfl (by kernel_rfl) (by kernel_rfl) (by kernel_rfl) O4.out (by first | rfl | simp) ?_; intro ws hst hO; have O4 := Hi hO; have O6 := Hi (hst.oth O6.out (by omega)); have BL := Hi (hst.below BL.out (by omega)); clear hst hO))
  refine bodyPost_ret (v := .agg (List.toArray [.int .u8 (byN s 2), .int .u8 (byN s 1), .int .u8 (byN s 0), .int .u8 255])) ?_ rfl ⟨rfl, BL.out⟩
  exact results_c Tryz.results104 _ _ _ [.int .u8 (byN s 2), .int .u8 (byN s 1), .int .u8 (byN s 0), .int .u8 255] _ rfl O4.out.range0 Tryz.underlying185 rfl (by kernel_rfl)
theorem owns_under {w w' : World} {base e sz n : Nat} {v : Value} {xs : List Value} (h : w.ownsRow base e sz v n xs) (hb : Below w.heap.size w w') : w'.ownsRow base e sz v n xs := by
  obtain ⟨hl, h2⟩ := h
  refine ⟨hl, ?_⟩
  rcases h2 with h2 | ⟨g, cap, cur, rfl, hg, hh, rest⟩
  · exact Or.inl h2
  · exact Or.inr ⟨g, cap, cur, rfl, hg, (hb.block g (Array.getElem?_eq_some_iff.1 hh).1).trans hh, rest⟩
theorem appS {P : Program} {ops : Array Oper} {rest : List Oper} {o : Oper} {a : Act} {Q : Exit → Act → World → Prop} (hgd : o.guard = none) (s x : Operand) (t : TypeId)
    (ho : o.op = .call { callee := .builtin .append, args := #[s, x], argTypes := #[t, t] })
    (base : Nat) (e : TypeId) (z : Value) (sz bytes : Nat) (ht : P.underlying t = some (.slice e)) (hi : (P.info? e).map (fun i => (i.zero, i.size, i.bytes)) = some (some z, sz, bytes)) (hz1 : z.cells.size = sz) (hs0 : 0 < sz)
    (v : Value) (n : Nat) (xs : List Value) (hs : a.eval s = v) {wr : World} (hown : wr.ownsRow base e sz v n xs) (C : List Value) (hC : ∀ u ∈ C, u.oneCell' = true) (hCl : C.length = 1 * sz) (T : TypeId)
    (hx : a.eval x = .slice (some ⟨wr.heap.size, 0, none⟩) 1 1) (hn : (n + 1) * bytes ≤ 140737488355328) (hn2 : n + 1 ≤ maxLen) (hbase : base ≤ wr.heap.size)
    (h : ∀ v' w', w'.ownsRow base e sz v' (n + 1) (xs ++ C) → (∀ W, Below base W wr → Below base W w') → base ≤ w'.heap.size → wpList P ops Q rest (a.put o.dst v') w') :
    wpList P ops Q (o :: rest) a (wr.alloc (.cells C.toArray T)) := by
  obtain ⟨i, i1, i2, i3, i4⟩ := info_parts hi
  have hz : wr.heap.size < (wr.alloc (.cells C.toArray T)).heap.size := by simp
  refine wpList_append_own _ hgd s x t ho base e i z sz bytes ht i1 i2 i3 i4 hz1 hs0 v n xs hs (hown.alloc _) ⟨wr.heap.size, 0, none⟩ 1 1 C hx hCl ?_ hC hn2 hn (by omega) ?_
  · intro j u hj
    exact news_obj (obj1_new wr C.toArray T) j u hj
  · intro v' w' hown' hgrow _
    refine h v' w' hown' (fun W hB => ?_) (Nat.le_trans (by omega) hgrow.size)
    refine (hB.alloc hbase _).grown hgrow (by omega) ?_
    intro k hk
    obtain ⟨_, h2⟩ := hown
    rcases h2 with ⟨rfl, _⟩ | ⟨g, cap, cur, rfl, hg, _⟩
    · simp [Value.ownBlock] at hk
    · simp [Value.ownBlock] at hk; omega
theorem owns_empty3 (w : World) (T : TypeId) (size : Nat) : (w.alloc (.cells #[] T)).ownsRow w.heap.size T size (.slice (some ⟨w.heap.size, 0, none⟩) 0 0) 0 [] :=
  ⟨by simp, Or.inr ⟨w.heap.size, 0, #[], rfl, Nat.le_refl _, heap_alloc_new w _, Nat.le_refl _, Nat.zero_le _, by simp, by simp⟩⟩
def colsL (s : ByteArray) (k : Nat) : Nat → List Value
  | 0 => []
  | m + 1 => colsL s k m ++ entC (s.extract (m * k) s.size)
def Read10Post (w : World) (s : ByteArray) (k m : Nat) (e : Ending) (w' : World) : Prop := ∃ v, e = .returned v ∧ w'.ownsRow w.heap.size 185 4 v m (colsL s k m) ∧ Below w.heap.size w w'
set_option maxRecDepth 100000 in
set_option maxHeartbeats 4000000 in
theorem read10_any (s : ByteArray) (n k m : Nat) (w : World) (hk : k = 3 ∨ k = 4) (hn : n ≤ 1000000) (hs : s.size ≤ 9223372036854775807) (hm : m ≤ n) (hm2 : m * k ≤ s.size) (hend : m = n ∨ s.size < m * k + k) :
    Calls Tryz.prog 92 #[.string s, .int .i64 n, .int .i64 k] w (Read10Post w s k m) := by
  have HSZ := Hi (fun w0 => (show Calls Tryz.prog 160 #[.int .i64 k] w0 fun e w' => e = .returned (.int .i64 k) ∧ w' = w0 by
    rcases hk with rfl | rfl
    · exact size10_3 w0
    · exact size10_4 w0))
  have HEN := Hi (fun t w0 (ht : 3 ≤ t.size) => entry10_any t k w0 ht (by omega))
  have HEND := Hi hend
  have hO := owns_empty3 w 185 4
  have HK := Hi hk
  have hk4 : k ≤ 4 := by omega
  have hk3 : 3 ≤ k := by omega
  clear hend hk
  go_enter Tryz.func92, Tryz.ntmps92
  go_wp2_with ((go_at_call 160; (with_reducible refine (HSZ.out _).mono ?_); rintro e w2 ⟨rfl, rfl⟩))
  go_loopw [7, 9] (fun v c wr => ∃ i : Nat, i ≤ m ∧ c = .int .i64 i ∧ wr.ownsRow w.heap.size 185 4 v i (colsL s k i) ∧ Below w.heap.size w wr) (fun _ c _ => m - (intOf c).toNat)
  case atStart => exact ⟨0, by omega, by first | rfl | simp, hO, (Below.refl _ _).alloc (Nat.le_refl _) _⟩
  case round =>
    obtain ⟨i, hi, rfl, hown, hb⟩ := hrel
    have HO := Hi hown
    have HB := Hi hb
    have hsz := hb.size
    clear hown hb hO
    have hik : i * k ≤ m * k := Nat.mul_le_mul_right k hi
    obtain ⟨q, hq⟩ : ∃ q, i * k = q := ⟨_, rfl⟩
    have eM : (i : Int) * (k : Int) = (q : Int) := by rw [← hq]; exact (Int.natCast_mul i k).symm
    have hq4 : q ≤ 4000000 := by rw [← hq]; exact Nat.le_trans (Nat.mul_le_mul (show i ≤ 1000000 by omega) hk4) (by decide)
    have eW : IntKind.i64.wrap ((i : Int) * (k : Int)) = (q : Int) := by rw [eM]; exact i64_wraps _ (by omega) (by omega)
    have eS : IntKind.i64.wrap ((s.size : Int) - (q : Int)) = (s.size : Int) - q := i64_wraps _ (by omega) (by omega)
    by_cases hlt : i < m
    rotate_left
    · obtain rfl : i = m := by omega
      rw [hq] at HEND hm2
      clear hlt hi
      by_cases hin : i < n
      · have T2 : ¬ ((k : Int) ≤ (s.size : Int) - q) := by have := HEND.out; omega
        have T3 : (s.size : Int) - q < k := by omega
        clear hm2
        go_wp2_with ((with_reducible refine skip_g rfl ?_ ?_); rfl; intro _)
        go_ret
        exact ⟨_, rfl, HO.out, HB.out⟩
      · go_wp2_with ((with_reducible refine skip_g rfl ?_ ?_); rfl; intro _)
        go_ret
        exact ⟨_, rfl, HO.out, HB.out⟩
    · have h1 : i + 1 ≤ m := hlt
      have h2 := Nat.mul_le_mul_right k h1
      rw [Nat.add_mul, Nat.one_mul, hq] at h2
      have hqs : q + k ≤ s.size := by omega
      have T1 : i < n := by omega
      have T2 : (k : Int) ≤ (s.size : Int) - q := by omega
      have T3 : (q : Int) ≤ s.size := by omega
      have hes : 3 ≤ (s.extract q s.size).size := by rw [ByteArray.size_extract]; omega
      have HE := Hi (fun w0 => (show Calls Tryz.prog 104 #[.string (s.extract q s.size), .int .i64 k] w0 (RA w0 [.int .u8 (byN (s.extract q s.size) 2), .int .u8 (byN (s.extract q s.size) 1), .int .u8 (byN (s.extract q s.size) 0), .int .u8 255]) from HEN.out _ w0 hes))
      have HCS := Hi (show colsL s k (i + 1) = colsL s k i ++ [.int .u8 (byN (s.extract q s.size) 2), .int .u8 (byN (s.extract q s.size) 1), .int .u8 (byN (s.extract q s.size) 0), .int .u8 255] by rw [colsL, hq]; rfl)
      clear hes h1 h2 hik
      go_wp2_with (first
        | ((go_at_call 104; (with_reducible refine (HE.out _).mono ?_); rintro e w5 ⟨rfl, hb5⟩); have HO5 := Hi (owns_under HO.out hb5); have HB5 := Hi (bthen hb5 HB.out HB.out.size); have hsz5 := HB5.out.size; clear hb5)
        | (at_builtin; refine appS rfl (.tmp 28) (.tmp 36) 54 rfl w.heap.size 185 (.agg #[.int .u8 0, .int .u8 0, .int .u8 0, .int .u8 0]) 4 4 Tryz.underlying54 (by kernel_rfl) rfl (by decide) _ _ _ rfl HO5.out [.int .u8 (byN (s.extract q s.size) 2), .int .u8 (byN (s.extract q s.size) 1), .int .u8 (byN (s.extract q s.size) 0), .int .u8 255] (by intro u hu; simp at hu; rcases hu with rfl | rfl | rfl | rfl <;> rfl) rfl _ rfl (by omega) (by unfold maxLen; omega) hsz5 ?_; intro v' w1 hown1 hB1 hz1; have O1 := Hi hown1; have B1 := Hi hB1; clear hown1 hB1))
      go_roundw
      case rel => exact ⟨i + 1, by omega, by go_num, by rw [HCS.out]; exact O1.out, B1.out w HB5.out⟩
      case measure => simp [intOf]; omega
end Go.Proofs.YtlfbaggcfaenlaaGreat

/- The reference of layer 6: all bits of a text, walked. -/
import Derived.Test.YtobpocdpnkicnaaC3
import Derived.Test.YtobpocdpnkicnaaD9
import Derived.Deep.AppendLies
namespace Go.Proofs.Ytobpocdpnkicnaa
open Go.RowKit
set_option linter.unusedVariables false
/-- Append of one element to a slice of the call's own; all other blocks stay. -/
theorem app1g {P : Program} {ops : Array Oper} {rest : List Oper} {o : Oper} {a : Act} {Q : Exit → Act → World → Prop} (hgd : o.guard = none) (s x : Operand) (t : TypeId)
    (ho : o.op = .call { callee := .builtin .append, args := #[s, x], argTypes := #[t, t] })
    (base : Nat) (e : TypeId) (z : Value) (bytes : Nat) (ht : P.underlying t = some (.slice e)) (hi : (P.info? e).map (fun i => (i.zero, i.size, i.bytes)) = some (some z, 1, bytes)) (hz1 : z.cells.size = 1)
    (v : Value) (n : Nat) (xs : List Value) (hs : a.eval s = v) {wr : World} (hown : wr.ownsRow base e 1 v n xs) (X : Value) (hX : X.oneCell' = true) (T : TypeId)
    (hx : a.eval x = .slice (some ⟨wr.heap.size, 0, none⟩) 1 1) (hn : (n + 1) * bytes ≤ 140737488355328) (hn2 : n + 1 ≤ maxLen) (hbase : base ≤ wr.heap.size)
    (h : ∀ v' w', w'.ownsRow base e 1 v' (n + 1) (xs ++ [X]) → Chg (fun k => v.ownBlock = some k) wr w' → (∀ g, v'.ownBlock = some g → v.ownBlock = some g ∨ wr.heap.size ≤ g) → base ≤ w'.heap.size → wpList P ops Q rest (a.put o.dst v') w') :
    wpList P ops Q (o :: rest) a (wr.alloc (.cells #[X] T)) := by
  obtain ⟨i, i1, i2, i3, i4⟩ := info_parts hi
  have hz : wr.heap.size < (wr.alloc (.cells #[X] T)).heap.size := by simp
  refine wpList_append_lies (w := wr.alloc (.cells #[X] T)) hgd s x t ho base e i z 1 bytes ht i1 i2 i3 i4 hz1 (by decide) v n xs hs (hown.alloc _) ⟨wr.heap.size, 0, none⟩ 1 1 [X] hx rfl ?_ ?_ (by decide) hn2 hn (by omega) _ rfl ?_
  · intro j u hj
    match j, hj with
    | 0, hj => simp at hj; subst hj; simp [Addr.add, go_sem]
  · intro u hu; simp at hu; subst hu; exact hX
  · intro g cap w' hown' hgrow hat hlt
    have hc : Chg (fun k => v.ownBlock = some k) wr w' :=
      ((Chg.refl _ wr).alloc (.cells #[X] T)).trans ⟨hgrow.os, hgrow.tape, hgrow.output, hgrow.size, fun k hk hn => hgrow.block k hk (fun e => hn e.symm)⟩
    refine h _ w' hown' hc ?_ (Nat.le_trans hbase hc.size)
    intro g' hg'
    have : g = g' := by simpa [Value.ownBlock] using hg'
    subst this
    rcases hat with hat | hat
    · exact Or.inl hat
    · exact Or.inr (by rw [hat]; simp)
def lowBits (b : Int) : Nat → List Int
  | 0 => []
  | j + 1 => lowBits b j ++ [b / 2 ^ j % 2]
theorem lowBits_len (b : Int) (j : Nat) : (lowBits b j).length = j := by induction j with | zero => rfl | succ j ih => simp [lowBits, ih]
theorem lowBits_get (b : Int) (n i : Nat) (h : i < n) : (lowBits b n).getD i 0 = b / 2 ^ i % 2 := by
  induction n with
  | zero => omega
  | succ n ih =>
    rw [lowBits, List.getD_eq_getElem?_getD]
    by_cases hi : i < n
    · rw [List.getElem?_append_left (by rw [lowBits_len]; exact hi), ← List.getD_eq_getElem?_getD]; exact ih hi
    · obtain rfl : i = n := by omega
      rw [List.getElem?_append_right (by rw [lowBits_len]; omega), lowBits_len]; simp
theorem owns_block {w : World} {base e size n : Nat} {v : Value} {xs : List Value} (h : w.ownsRow base e size v n xs) {g : Nat} (hg : v.ownBlock = some g) : base ≤ g ∧ g < w.heap.size := by
  obtain ⟨h1, h2⟩ := h
  rcases h2 with ⟨rfl, _⟩ | ⟨g', cap, cur, rfl, hb, hg', _⟩
  · simp [Value.ownBlock] at hg
  · have : g' = g := by simpa [Value.ownBlock] using hg
    subst this
    exact ⟨hb, (Array.getElem?_eq_some_iff.1 hg').1⟩
theorem owns_below {B : Nat} {w w' : World} {base e size n : Nat} {v : Value} {xs : List Value} (h : w.ownsRow base e size v n xs) (hb : Below B w w') (hB : ∀ g, v.ownBlock = some g → g < B) : w'.ownsRow base e size v n xs := by
  obtain ⟨h1, h2⟩ := h
  refine ⟨h1, ?_⟩
  rcases h2 with h2 | ⟨g, cap, cur, rfl, hb', hg, rest⟩
  · exact Or.inl h2
  · exact Or.inr ⟨g, cap, cur, rfl, hb', by rw [hb.block g (hB g rfl)]; exact hg, rest⟩
theorem chg_own {B : Nat} {W w w' : World} {v : Value} {base e size n : Nat} {xs : List Value} (hW : Below B W w) (hown : w.ownsRow base e size v n xs) (hc : Chg (fun k => v.ownBlock = some k) w w') (hB : B ≤ base) (hBw : B ≤ w.heap.size) : Below B W w' :=
  bchg hW hc hBw (fun k hk => by have := (owns_block hown hk).1; omega)
theorem not_own {v v' : Value} {n g2 : Nat} (h : ∀ g, v'.ownBlock = some g → v.ownBlock = some g ∨ n ≤ g) (hn : v.ownBlock ≠ some g2) (hg : g2 < n) : v'.ownBlock ≠ some g2 := by
  intro e
  rcases h g2 e with h | h
  · exact hn h
  · omega
set_option maxRecDepth 100000 in
set_option maxHeartbeats 4000000 in
theorem all_any (s : ByteArray) (low : Bool) (w : World) (hs : s.size ≤ 100) : Calls Try.prog 60 #[.string s, .bool low] w fun e w' => ∃ v, e = .returned v ∧ w'.ownsRow w.heap.size 3 1 v (8 * s.size) ((bitsList s low 0 (8 * s.size)).map (.int .i64)) ∧ Below w.heap.size w w' := by
  go_enter Try.func60, Try.ntmps60
  go_wp2
  go_loopw [5, 6, 7, 8, 9, 10] (fun v c q7 q8 q9 q10 wr => ∃ i : Nat, i ≤ s.size ∧ c = .int .i64 i ∧ wr.ownsRow w.heap.size 3 1 v (8 * i) ((bitsList s low 0 (8 * i)).map (.int .i64)) ∧ Below w.heap.size w wr) (fun _ c _ _ _ _ _ => s.size - (intOf c).toNat)
  case atStart => exact ⟨0, by omega, rfl, owns_empty w _, (Below.refl _ _).alloc (Nat.le_refl _) _⟩
  case round =>
    obtain ⟨i, hi, rfl, hown, hb⟩ := hrel
    have hOwn := Lib.hid hown
    have Hb := Lib.hid hb
    have hsz := hb.size
    have hob := Lib.hid (fun g hg => (owns_block hown (g := g) hg).2)
    clear hown hb
    by_cases hlt : i < s.size
    rotate_left
    · have hge : s.size ≤ i := by omega
      have E := Lib.hid (show i = s.size by omega)
      go_wp2
      go_ret
      exact ⟨_, rfl, by rw [← E.out]; exact hOwn.out, Hb.out⟩
    have hby := byN_bd s i
    have hbg := byN_get s i hlt
    obtain ⟨b, hb⟩ : ∃ b, byN s i = b := ⟨_, rfl⟩
    rw [hb] at hby hbg
    have HBY := Lib.hid hb
    clear hb
    obtain ⟨b0, b1⟩ := hby
    have hw64 : wrap64 b = b := IntWalk.wrap64_in b ⟨by omega, by omega⟩
    go_wp2
    obtain ⟨wo, rfl⟩ : ∃ wo : World, wo = wr := ⟨_, rfl⟩
    go_loopw [7, 8, 9] (fun q v c wr => ∃ j : Nat, j ≤ 8 ∧ c = .int .i64 j ∧ q = .int .i64 (b / 2 ^ j) ∧ wr.ownsRow wo.heap.size 3 1 v (lowBits b j).length ((lowBits b j).map (.int .i64)) ∧ Below wo.heap.size wo wr) (fun _ _ c _ => 8 - (intOf c).toNat)
    case atStart => exact ⟨0, by omega, rfl, by simp, owns_empty wo _, (Below.refl _ _).alloc (Nat.le_refl _) _⟩
    case round =>
      obtain ⟨j, hj, rfl, rfl, hown, hb⟩ := hrel
      have hOwn2 := Lib.hid hown
      have Hb2 := Lib.hid hb
      have hsz2 := hb.size
      have hlen : (lowBits b j).length ≤ 8 := by rw [lowBits_len]; exact hj
      clear hown hb
      obtain ⟨q, hq⟩ : ∃ q, b / 2 ^ j = q := ⟨_, rfl⟩
      have hq0 : 0 ≤ q := by rw [← hq]; exact Int.ediv_nonneg b0 (Int.le_of_lt (pow_pos' j))
      have hq1 : q ≤ 255 := by have := Int.ediv_le_self (2 ^ j) b0; omega
      have HQ := Lib.hid hq
      rw [hq]
      clear hq
      by_cases hjl : j < 8
      · go_wp2_with (at_builtin; refine app1 rfl (.tmp 27) (.tmp 30) 22 rfl wo.heap.size 3 (.int .i64 0) 8 Try.underlying22 (by kernel_rfl) rfl _ _ _ rfl hOwn2.out _ rfl _ rfl (by omega) (by unfold maxLen; omega) hsz2 ?_; intro v' w1 hown1 hB1 hz1; have O1 := Lib.hid hown1; have B1 := Lib.hid hB1; clear hown1 hB1)
        go_roundw
        case rel => exact ⟨j + 1, by omega, by go_num, by rw [div_pow_succ, HQ.out], owns_eq O1.out (by simp [lowBits]) (by rw [lowBits, HQ.out, List.map_append]; rfl), B1.out wo Hb2.out⟩
        case measure => simp [intOf]; omega
      · have hjge : 8 ≤ j := by omega
        have hOwn8 : wr.ownsRow wo.heap.size 3 1 u8 (lowBits b 8).length ((lowBits b 8).map (.int .i64)) := by
          have := hOwn2.out; rw [show j = 8 by omega] at this; exact this
        clear hOwn2
        have hOwn2 := Lib.hid hOwn8
        clear hOwn8
        obtain ⟨g2, cap2, hv2, hc1, hc2, hg2, hcell2⟩ := owns_ints hOwn2.out (by rw [lowBits_len]; decide)
        rw [lowBits_len] at hv2 hc1 hcell2
        have hgb := (owns_block hOwn2.out (g := g2) (by rw [hv2]; rfl)).1
        have HV2 := Lib.hid hv2
        have CELL := Lib.hid (fun m (hm : m < 8) => (hcell2 m hm).trans (by rw [lowBits_get b 8 m hm] : _ = some (Value.int .i64 (b / 2 ^ m % 2))))
        have hOwnA := Lib.hid (owns_below hOwn.out Hb2.out hob.out)
        have HbA := Lib.hid (bthen Hb2.out Hb.out hsz)
        have hneA := Lib.hid (show u5.ownBlock ≠ some g2 from fun e => by have := hob.out g2 e; omega)
        have hszA : w.heap.size ≤ wr.heap.size := Nat.le_trans hsz hsz2
        rw [hv2]
        clear hv2 hcell2 hOwn2 hlen
        go_wp2
        obtain ⟨wp, hwp⟩ : ∃ wp : World, wp = wr := ⟨_, rfl⟩
        have CELLP : Hid (∀ m, m < 8 → wp.cell? ⟨g2, m, none⟩ = some (Value.int .i64 (b / 2 ^ m % 2))) := by rw [hwp]; exact CELL.out
        have hg2p : g2 < wp.heap.size := by rw [hwp]; exact hg2
        rw [← hwp] at hOwnA HbA hszA ⊢
        clear hwp CELL hg2 Hb2 hsz2
        go_loopw [5, 10] (fun v c wr => ∃ j : Nat, j ≤ 8 ∧ c = .int .i64 j ∧ wr.ownsRow w.heap.size 3 1 v (8 * i + j) ((bitsList s low 0 (8 * i + j)).map (.int .i64)) ∧ v.ownBlock ≠ some g2 ∧ g2 < wr.heap.size ∧ (∀ m, m < 8 → wr.cell? ⟨g2, m, none⟩ = some (Value.int .i64 (b / 2 ^ m % 2))) ∧ Below w.heap.size w wr) (fun _ c _ => 8 - (intOf c).toNat)
        case atStart => exact ⟨0, by omega, rfl, hOwnA.out, hneA.out, hg2p, CELLP.out, HbA.out⟩
        case round =>
          obtain ⟨j, hj, rfl, hown, hne, hg, hcl, hb⟩ := hrel
          have hOwn3 := Lib.hid hown
          have Hb3 := Lib.hid hb
          have hsz3 := hb.size
          have hNE := Lib.hid hne
          have HCL := Lib.hid hcl
          clear hown hb hne hcl
          by_cases hjl : j < 8
          · unfold maxLen at hc2
            cases low with
            | true =>
              have hck := HCL.out j hjl
              obtain ⟨y, hy⟩ : ∃ y, b / 2 ^ j % 2 = y := ⟨_, rfl⟩
              rw [hy] at hck
              have HY := Lib.hid (show bitAt s true (0 + (8 * i + j)) = y by unfold bitAt; rw [if_pos rfl, show (0 + (8 * i + j)) / 8 = i by omega, show (0 + (8 * i + j)) % 8 = j by omega, HBY.out, hy])
              clear hy
              go_wp2_with (at_builtin; refine app1g rfl (.tmp 39) (.tmp 44) 22 rfl w.heap.size 3 (.int .i64 0) 8 Try.underlying22 (by kernel_rfl) rfl _ _ _ rfl hOwn3.out _ rfl _ rfl (by omega) (by unfold maxLen; omega) hsz3 ?_; intro v' w1 hown1 hC1 hv1 hz1; have O1 := Lib.hid hown1; have C1 := Lib.hid hC1; have V1 := Lib.hid hv1; clear hown1 hC1 hv1)
              go_roundw
              case rel => exact ⟨j + 1, by omega, by go_num, owns_eq O1.out (by omega) (by rw [show 8 * i + (j + 1) = (8 * i + j) + 1 by omega, bitsList, HY.out, List.map_append]; rfl), not_own V1.out hNE.out hg, by have := C1.out.size; omega, fun m hm => (C1.out.cell hg hNE.out).trans (HCL.out m hm), chg_own Hb3.out hOwn3.out C1.out (Nat.le_refl _) hsz3⟩
              case measure => simp [intOf]; omega
            | false =>
              have hck := HCL.out (7 - j) (by omega)
              obtain ⟨y, hy⟩ : ∃ y, b / 2 ^ (7 - j) % 2 = y := ⟨_, rfl⟩
              rw [hy] at hck
              have HY := Lib.hid (show bitAt s false (0 + (8 * i + j)) = y by unfold bitAt; rw [if_neg (by decide), show (0 + (8 * i + j)) / 8 = i by omega, show (0 + (8 * i + j)) % 8 = j by omega, HBY.out, hy])
              clear hy
              go_wp2_with (at_builtin; refine app1g rfl (.tmp 46) (.tmp 52) 22 rfl w.heap.size 3 (.int .i64 0) 8 Try.underlying22 (by kernel_rfl) rfl _ _ _ rfl hOwn3.out _ rfl _ rfl (by omega) (by unfold maxLen; omega) hsz3 ?_; intro v' w1 hown1 hC1 hv1 hz1; have O1 := Lib.hid hown1; have C1 := Lib.hid hC1; have V1 := Lib.hid hv1; clear hown1 hC1 hv1)
              go_roundw
              case rel => exact ⟨j + 1, by omega, by go_num, owns_eq O1.out (by omega) (by rw [show 8 * i + (j + 1) = (8 * i + j) + 1 by omega, bitsList, HY.out, List.map_append]; rfl), not_own V1.out hNE.out hg, by have := C1.out.size; omega, fun m hm => (C1.out.cell hg hNE.out).trans (HCL.out m hm), chg_own Hb3.out hOwn3.out C1.out (Nat.le_refl _) hsz3⟩
              case measure => simp [intOf]; omega
          · have hjge2 : 8 ≤ j := by omega
            go_wp2
            go_roundw
            case rel => exact ⟨i + 1, by omega, by go_num, owns_eq hOwn3.out (by omega) (by rw [show 8 * (i + 1) = 8 * i + j by omega]), Hb3.out⟩
            case measure => simp [intOf]; omega
end Go.Proofs.Ytobpocdpnkicnaa

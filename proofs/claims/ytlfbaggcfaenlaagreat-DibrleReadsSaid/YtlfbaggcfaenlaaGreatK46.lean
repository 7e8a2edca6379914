/- The reference of layer 22: put, walked. -/
import Derived.Test.YtlfbaggcfaenlaaGreatK32
import Derived.Test.YtlfbaggcfaenlaaGreatK0
namespace Go.Proofs.YtlfbaggcfaenlaaGreat
open Go.RowKit
set_option linter.unusedVariables false
set_option linter.unusedSimpArgs false
theorem range_chg {S : Nat → Prop} {w w' : World} {b o : Nat} {L : List Value} (h : w.rangeAt b o L) (hc : Chg S w w') (hb : b < w.heap.size) (hn : ¬ S b) : w'.rangeAt b o L := fun j v hv => (hc.cell hb hn).trans (h j v hv)
theorem range_part {w : World} {b o : Nat} {L : List Value} (h : w.rangeAt b o L) (k : Nat) (L2 : List Value) (hL : ∀ j v, L2[j]? = some v → L[k + j]? = some v) : w.rangeAt b (o + k) L2 := fun j v hv => by
  rw [Nat.add_assoc]; exact h (k + j) v (hL j v hv)
theorem owns_stored {w w2 : World} {base e size n g cap o : Nat} {xs vs : List Value} (h : w.ownsRow base e size (.slice (some ⟨g, 0, none⟩) n cap) n xs) (hst : Stored w g o vs w2) (ho : o + vs.length ≤ xs.length) : w2.ownsRow base e size (.slice (some ⟨g, 0, none⟩) n cap) n (putC xs o vs) := by
  rw [show w2 = _ from hst]; clear hst
  induction vs generalizing w o xs with
  | nil => rw [putC_nil]; exact h
  | cons v t ih =>
    rw [World.setCells]
    have h1 := (h.stored o v).1
    have h2 := ih h1 (o := o + 1) (by simp at ho ⊢; omega)
    have e1 : xs.set o v = putC xs o [v] := by
      apply List.ext_getElem?
      intro i
      rw [putC_get _ _ _ (by simp at ho ⊢; omega), List.getElem?_set]
      by_cases hi : o = i
      · subst hi; rw [if_pos rfl, if_pos (by simp at ho; omega), if_pos (by simp)]; simp
      · rw [if_neg hi, if_neg (by simp; omega)]
    rw [e1, show o + 1 = o + [v].length from rfl, putC_putC _ _ _ _ (by simp at ho ⊢; omega)] at h2
    exact h2
theorem owns_there {w : World} {base e size n g cap : Nat} {xs : List Value} (h : w.ownsRow base e size (.slice (some ⟨g, 0, none⟩) n cap) n xs) (o k : Nat) (ho : o + k ≤ xs.length) : w.there g o k := fun j hj => by
  have h1 := owns_range h (o + j) (xs[o + j]'(by omega)) (List.getElem?_eq_getElem _)
  rw [Nat.zero_add] at h1
  exact ⟨by rw [h1]; rfl, h.frozenAt _⟩
theorem owns_form4 {w : World} {base e sz n : Nat} {v : Value} {xs : List Value} (h : w.ownsRow base e sz v n xs) (hn : 0 < n) : ∃ g cap, v = .slice (some ⟨g, 0, none⟩) n cap ∧ base ≤ g ∧ g < w.heap.size := by
  obtain ⟨hl, h2⟩ := h
  rcases h2 with ⟨_, h2⟩ | ⟨g, cap, cur, hv, hg, hh, _⟩
  · omega
  · exact ⟨g, cap, hv, hg, (Array.getElem?_eq_some_iff.1 hh).1⟩
theorem owns_down {B : Nat} {w w' : World} {base e size n : Nat} {v : Value} {xs : List Value} (h : w.ownsRow base e size v n xs) (hb : Below B w w') (hB : ∀ g, v.ownBlock = some g → g < B) : w'.ownsRow base e size v n xs := by
  obtain ⟨hl, h2⟩ := h
  refine ⟨hl, ?_⟩
  rcases h2 with h2 | ⟨g, cap, cur, rfl, hg, hh, rest⟩
  · exact Or.inl h2
  · exact Or.inr ⟨g, cap, cur, rfl, hg, (hb.block g (hB g rfl)).trans hh, rest⟩
theorem four_of {L : List Value} (h : L.length = 4) : ∃ a b c d, L = [a, b, c, d] := by
  match L, h with
  | [a, b, c, d], _ => exact ⟨a, b, c, d, rfl⟩
theorem owns_empty3' (w : World) (T : TypeId) (size : Nat) : (w.alloc (.cells #[] T)).ownsRow w.heap.size T size (.slice (some ⟨w.heap.size, 0, none⟩) 0 0) 0 [] :=
  ⟨by simp, Or.inr ⟨w.heap.size, 0, #[], rfl, Nat.le_refl _, heap_alloc_new w _, Nat.le_refl _, Nat.zero_le _, by simp, by simp⟩⟩
theorem appL {P : Program} {ops : Array Oper} {rest : List Oper} {o : Oper} {a : Act} {Q : Exit → Act → World → Prop} (hgd : o.guard = none) (s x : Operand) (t : TypeId)
    (ho : o.op = .call { callee := .builtin .append, args := #[s, x], argTypes := #[t, t] })
    (base : Nat) (e : TypeId) (z : Value) (sz bytes : Nat) (ht : P.underlying t = some (.slice e)) (hi : (P.info? e).map (fun i => (i.zero, i.size, i.bytes)) = some (some z, sz, bytes)) (hz1 : z.cells.size = sz) (hs0 : 0 < sz)
    (v : Value) (n : Nat) (xs : List Value) (hs : a.eval s = v) {wr : World} (hown : wr.ownsRow base e sz v n xs) (gs og m c : Nat) (C : List Value) (hx : a.eval x = .slice (some ⟨gs, og, none⟩) m c) (hCl : C.length = m * sz) (hR : wr.rangeAt gs og C) (hC : ∀ u ∈ C, u.oneCell' = true)
    (hn : (n + m) * bytes ≤ 140737488355328) (hn2 : n + m ≤ maxLen) (hbase : base ≤ wr.heap.size)
    (h : ∀ v' w', w'.ownsRow base e sz v' (n + m) (xs ++ C) → Chg (fun k => v.ownBlock = some k) wr w' → base ≤ w'.heap.size → wpList P ops Q rest (a.put o.dst v') w') :
    wpList P ops Q (o :: rest) a wr := by
  obtain ⟨i, i1, i2, i3, i4⟩ := info_parts hi
  refine wpList_append_own _ hgd s x t ho base e i z sz bytes ht i1 i2 i3 i4 hz1 hs0 v n xs hs hown ⟨gs, og, none⟩ m c C hx hCl ?_ hC hn2 hn hbase ?_
  · intro j u hj
    rw [Addr.add_mid]; exact hR j u hj
  · intro v' w' hown' hgrow _
    exact h v' w' hown' ⟨hgrow.os, hgrow.tape, hgrow.output, hgrow.size, fun k hk hn => hgrow.block k hk (fun e => hn e.symm)⟩ (Nat.le_trans hbase hgrow.size)
def Put22Post (w : World) (x y : Nat) (p : Int) (N : Nat) (xs : List Value) (e : Ending) (w' : World) : Prop := ∃ g cap, e = .returned (.agg (List.toArray (stL x y p (.slice (some ⟨g, 0, none⟩) N cap) 0 0))) ∧ w'.ownsRow w.heap.size 185 4 (.slice (some ⟨g, 0, none⟩) N cap) N xs ∧ Below w.heap.size w w'
set_option maxRecDepth 100000 in
set_option maxHeartbeats 8000000 in
theorem put22_any (sz : Int) (W H : Nat) (top : Bool) (dp mt co r g b q fr en : Int) (x y m N gL cL gl cl bL bl : Nat) (p : Int) (xs ls : List Value) (w : World) (hy : y < H) (hx : x + m ≤ W) (hN : N = W * H) (hW : W ≤ 40) (hH : H ≤ 40) (hm : 1 ≤ m)
    (hL : w.ownsRow bL 185 4 (.slice (some ⟨gL, 0, none⟩) N cL) N xs) (hx1 : ∀ u ∈ xs, u.oneCell' = true) (hl : w.ownsRow bl 185 4 (.slice (some ⟨gl, 0, none⟩) m cl) m ls) (hl1 : ∀ u ∈ ls, u.oneCell' = true) :
    Calls Tryz.prog 163 #[.agg (List.toArray (stL x y p (.slice (some ⟨gL, 0, none⟩) N cL) 0 0)), .agg (List.toArray [.int .i64 sz, .int .i64 W, .int .i64 H, .bool top, .int .i64 dp, .int .i64 mt, .int .i64 co, .int .i64 r, .int .i64 g, .int .i64 b, .int .i64 q, .int .i64 fr, .int .i64 en, .int .i64 0, .int .i64 0]), .slice (some ⟨gl, 0, none⟩) m cl] w (Put22Post w (x + m) y p N (putC xs (4 * ((H - 1 - y) * W + x)) ls)) := by
  obtain ⟨rr, hr⟩ : ∃ rr, H - 1 - y = rr := ⟨_, rfl⟩
  obtain ⟨qq, hq⟩ : ∃ qq, rr * W = qq := ⟨_, rfl⟩
  have hrr : rr + y + 1 = H := by omega
  have eM : (rr : Int) * (W : Int) = (qq : Int) := by rw [← hq]; exact (Int.natCast_mul rr W).symm
  have hin : qq + x + m ≤ N := by have := place_in hy hx; rw [hr, hq] at this; omega
  have hN16 : N ≤ 1600 := by rw [hN]; exact Nat.mul_le_mul hW hH
  rw [hr, hq]
  have HPL := Hi hN
  have hxs : xs.length = 4 * N := by have := hL.1; omega
  have hls : ls.length = 4 * m := by have := hl.1; omega
  clear hr hq hN
  obtain ⟨d, hd⟩ : ∃ d, w.heap.size = d := ⟨_, rfl⟩
  have lL := (owns_lt hL).2
  have ll := (owns_lt hl).2
  rw [hd] at lL ll
  unfold stL Put22Post
  have O3 := Hi (((obj1_new w (List.toArray [.int .i64 x, .int .i64 y, .int .i64 p, .slice (some ⟨gL, 0, none⟩) N cL, .int .i64 0, .int .i64 0]) 168).alloc (.cells (List.toArray [.int .i64 sz, .int .i64 W, .int .i64 H, .bool top, .int .i64 dp, .int .i64 mt, .int .i64 co, .int .i64 r, .int .i64 g, .int .i64 b, .int .i64 q, .int .i64 fr, .int .i64 en, .int .i64 0, .int .i64 0]) 52)).alloc (.cells (List.toArray [.int .i64 0, .int .i64 0, .int .i64 0, .slice none 0 0, .int .i64 0, .int .i64 0]) 168))
  have O4 := Hi ((obj1_new (w.alloc (.cells (List.toArray [.int .i64 x, .int .i64 y, .int .i64 p, .slice (some ⟨gL, 0, none⟩) N cL, .int .i64 0, .int .i64 0]) 168)) (List.toArray [.int .i64 sz, .int .i64 W, .int .i64 H, .bool top, .int .i64 dp, .int .i64 mt, .int .i64 co, .int .i64 r, .int .i64 g, .int .i64 b, .int .i64 q, .int .i64 fr, .int .i64 en, .int .i64 0, .int .i64 0]) 52).alloc (.cells (List.toArray [.int .i64 0, .int .i64 0, .int .i64 0, .slice none 0 0, .int .i64 0, .int .i64 0]) 168))
  have O5 := Hi (obj1_new ((w.alloc (.cells (List.toArray [.int .i64 x, .int .i64 y, .int .i64 p, .slice (some ⟨gL, 0, none⟩) N cL, .int .i64 0, .int .i64 0]) 168)).alloc (.cells (List.toArray [.int .i64 sz, .int .i64 W, .int .i64 H, .bool top, .int .i64 dp, .int .i64 mt, .int .i64 co, .int .i64 r, .int .i64 g, .int .i64 b, .int .i64 q, .int .i64 fr, .int .i64 en, .int .i64 0, .int .i64 0]) 52)) (List.toArray [.int .i64 0, .int .i64 0, .int .i64 0, .slice none 0 0, .int .i64 0, .int .i64 0]) 168)
  rw [show (w.alloc (.cells (List.toArray [.int .i64 x, .int .i64 y, .int .i64 p, .slice (some ⟨gL, 0, none⟩) N cL, .int .i64 0, .int .i64 0]) 168)).heap.size = d + 1 by rw [← hd]; simp] at O4
  rw [show ((w.alloc (.cells (List.toArray [.int .i64 x, .int .i64 y, .int .i64 p, .slice (some ⟨gL, 0, none⟩) N cL, .int .i64 0, .int .i64 0]) 168)).alloc (.cells (List.toArray [.int .i64 sz, .int .i64 W, .int .i64 H, .bool top, .int .i64 dp, .int .i64 mt, .int .i64 co, .int .i64 r, .int .i64 g, .int .i64 b, .int .i64 q, .int .i64 fr, .int .i64 en, .int .i64 0, .int .i64 0]) 52)).heap.size = d + 1 + 1 by rw [← hd]; simp] at O5
  rw [hd] at O3
  have BL := Hi ((((Below.refl w.heap.size w).alloc (Nat.le_refl _) (.cells (List.toArray [.int .i64 x, .int .i64 y, .int .i64 p, .slice (some ⟨gL, 0, none⟩) N cL, .int .i64 0, .int .i64 0]) 168)).alloc (by simp) (.cells (List.toArray [.int .i64 sz, .int .i64 W, .int .i64 H, .bool top, .int .i64 dp, .int .i64 mt, .int .i64 co, .int .i64 r, .int .i64 g, .int .i64 b, .int .i64 q, .int .i64 fr, .int .i64 en, .int .i64 0, .int .i64 0]) 52)).alloc (by simp; omega) (.cells (List.toArray [.int .i64 0, .int .i64 0, .int .i64 0, .slice none 0 0, .int .i64 0, .int .i64 0]) 168))
  have hz3 : (((w.alloc (.cells (List.toArray [.int .i64 x, .int .i64 y, .int .i64 p, .slice (some ⟨gL, 0, none⟩) N cL, .int .i64 0, .int .i64 0]) 168)).alloc (.cells (List.toArray [.int .i64 sz, .int .i64 W, .int .i64 H, .bool top, .int .i64 dp, .int .i64 mt, .int .i64 co, .int .i64 r, .int .i64 g, .int .i64 b, .int .i64 q, .int .i64 fr, .int .i64 en, .int .i64 0, .int .i64 0]) 52)).alloc (.cells (List.toArray [.int .i64 0, .int .i64 0, .int .i64 0, .slice none 0 0, .int .i64 0, .int .i64 0]) 168)).heap.size = d + 1 + 1 + 1 := by rw [← hd]; simp
  have HL := Hi (owns_under hL BL.out)
  have HT := Hi (owns_under hl BL.out)
  rw [hd] at BL
  have HX1 := Hi hx1
  have HT1 := Hi hl1
  have HD0 := Hi hd
  obtain ⟨PP, hPP⟩ : ∃ PP, 4 * (qq + x) = PP := ⟨_, rfl⟩
  rw [hPP]
  have HPP := Hi hPP
  clear hPP
  go_enter Tryz.func163, Tryz.ntmps163
  go_upto_region 1 with (fail)
  clear hd hL hl hx1 hl1
  generalize World.alloc _ _ = w3 at O3 O4 O5 BL HL HT hz3 ⊢
  have HZ3 := Hi hz3
  have HE := Hi (owns_empty3' w3 185 4)
  rw [hz3] at HE
  have c33 : w3.cell? ⟨d, 3, none⟩ = some (.slice (some ⟨gL, 0, none⟩) N cL) := (O3.out.cell 3).trans rfl
  have HLR := Hi (owns_range (HL.out.alloc (.cells #[] 185)))
  have hsz4 : d + 1 + 1 + 1 ≤ (w3.alloc (.cells #[] 185)).heap.size := by simp; omega
  go_upto_region 3 with (at_builtin; refine appL rfl (.tmp 10) (.tmp 12) 54 rfl (d + 1 + 1 + 1) 185 (.agg #[.int .u8 0, .int .u8 0, .int .u8 0, .int .u8 0]) 4 4 Tryz.underlying54 (by kernel_rfl) rfl (by decide) (.slice (some ⟨d + 1 + 1 + 1, 0, none⟩) 0 0) 0 [] rfl HE.out gL 0 N cL xs rfl (by omega) HLR.out HX1.out (by omega) (by unfold maxLen; omega) hsz4 ?_; intro v' w1 hown1 hC1 hz1; rw [Nat.zero_add, List.nil_append] at hown1; obtain ⟨gv, cap, rfl, hg1, hg2⟩ := owns_form4 hown1 (by omega); have OW := Hi hown1; have CH := Hi hC1; clear hown1 hC1)
  have hnb : ∀ k, k < d + 1 + 1 + 1 → ¬ (Value.slice (some ⟨d + 1 + 1 + 1, 0, none⟩) 0 0).ownBlock = some k := by
    intro k hk hh
    have : d + 1 + 1 + 1 = k := by simpa [Value.ownBlock] using hh
    omega
  have O3 := Hi (CH.out.obj (O3.out.alloc (.cells #[] 185)) (hnb _ (by omega)))
  have O4 := Hi (CH.out.obj (O4.out.alloc (.cells #[] 185)) (hnb _ (by omega)))
  have O5 := Hi (CH.out.obj (O5.out.alloc (.cells #[] 185)) (hnb _ (by omega)))
  have HTR := Hi (range_chg (owns_range (HT.out.alloc (.cells #[] 185))) CH.out (by simp; omega) (hnb _ (by omega)))
  have hCB : Below d (w3.alloc (.cells #[] 185)) w1 := CH.out.below (by omega) (fun k hk => by
    have : d + 1 + 1 + 1 = k := by simpa [Value.ownBlock] using hk
    omega)
  have BL := Hi (bthen hCB (BL.out.alloc (by omega) (.cells #[] 185)) (by omega))
  clear hnb hCB CH HE HLR HL hsz4 hz3 c33
  go_wp2_with fail
  go_loopw [8] (fun c wr => ∃ i : Nat, i ≤ m ∧ c = .int .i64 i ∧ wr.ownsRow (d + 1 + 1 + 1) 185 4 (.slice (some ⟨gv, 0, none⟩) N cap) N (putC xs PP (ls.take (4 * i))) ∧ Chg (fun k => k = gv) w1 wr) (fun c _ => m - (intOf c).toNat)
  case atStart => exact ⟨0, by omega, by first | rfl | simp, by rw [Nat.mul_zero, List.take_zero, putC_nil]; exact OW.out, Chg.refl _ _⟩
  case round =>
    obtain ⟨i, hi, rfl, hown, hch⟩ := hrel
    have OW := Hi hown
    have CH := Hi hch
    have hw1 := hch.size
    have O3 := Hi (hch.obj O3.out (show ¬ d = gv by omega))
    have O4 := Hi (hch.obj O4.out (show ¬ d + 1 = gv by omega))
    have O5 := Hi (hch.obj O5.out (show ¬ d + 1 + 1 = gv by omega))
    have HTR := Hi (range_chg HTR.out hch (by omega) (show ¬ gl = gv by omega))
    clear hown hch
    by_cases hlt : i < m
    rotate_left
    · obtain rfl : i = m := by omega
      have e1 : ls.take (4 * i) = ls := List.take_of_length_le (by omega)
      rw [e1] at OW
      clear hlt hi
      have BL := Hi (bthen (CH.out.below (B := d) (by omega) (fun k hk => by omega)) BL.out (by omega))
      have c33 : wr.cell? ⟨d, 3, none⟩ = some (.slice (some ⟨gL, 0, none⟩) N cL) := (O3.out.cell 3).trans rfl
      have f33 : wr.frozen? ⟨d, 3, none⟩ = false := O3.out.frozen 3
      go_upto_region 8 with (fail)
      have O3 := Hi ((O3.out.set 3 (.slice (some ⟨gv, 0, none⟩) N cap)).cells (show _ = List.toArray [.int .i64 x, .int .i64 y, .int .i64 p, .slice (some ⟨gv, 0, none⟩) N cap, .int .i64 0, .int .i64 0] from rfl))
      have O5 := Hi (O5.out.set_other ⟨d, 3, none⟩ (.slice (some ⟨gv, 0, none⟩) N cap) (by simp; omega))
      have OW := Hi (owns_set3 (o := 3) (OB := d) OW.out (.slice (some ⟨gv, 0, none⟩) N cap) (by omega))
      have BL := Hi ((show Stored wr d 3 [.slice (some ⟨gv, 0, none⟩) N cap] (wr.setCell ⟨d, 3, none⟩ (.slice (some ⟨gv, 0, none⟩) N cap)) from rfl).below BL.out (by omega))
      generalize World.setCell _ _ _ = wv at O3 O5 OW BL ⊢
      clear c33 f33
      have c30 : wv.cell? ⟨d, 0, none⟩ = some (.int .i64 x) := (O3.out.cell 0).trans rfl
      have f30 : wv.frozen? ⟨d, 0, none⟩ = false := O3.out.frozen 0
      have h30 : x + i ≤ 100 := by omega
      go_upto_region 9 with (fail)
      have O3 := Hi ((O3.out.set 0 (.int .i64 ((x : Int) + (i : Int)))).cells (show _ = List.toArray [.int .i64 ((x : Int) + (i : Int)), .int .i64 y, .int .i64 p, .slice (some ⟨gv, 0, none⟩) N cap, .int .i64 0, .int .i64 0] from rfl))
      have O5 := Hi (O5.out.set_other ⟨d, 0, none⟩ (.int .i64 ((x : Int) + (i : Int))) (by simp; omega))
      have OW := Hi (owns_set3 (o := 0) (OB := d) OW.out (.int .i64 ((x : Int) + (i : Int))) (by omega))
      have BL := Hi ((show Stored wv d 0 [.int .i64 ((x : Int) + (i : Int))] (wv.setCell ⟨d, 0, none⟩ (.int .i64 ((x : Int) + (i : Int)))) from rfl).below BL.out (by omega))
      generalize World.setCell _ _ _ = wu at O3 O5 OW BL ⊢
      clear c30 f30
      go_wp2_with (first
        | (refine load_u (by kernel_rfl) 168 6 _ rfl d [.int .i64 ((x : Int) + (i : Int)), .int .i64 y, .int .i64 p, .slice (some ⟨gv, 0, none⟩) N cap, .int .i64 0, .int .i64 0] rfl rfl O3.out Tryz.underlying168 rfl (by kernel_rfl) ?_; intro _)
        | (refine store_o rfl 168 6 _ _ rfl (d + 1 + 1) [.int .i64 ((x : Int) + (i : Int)), .int .i64 y, .int .i64 p, .slice (some ⟨gv, 0, none⟩) N cap, .int .i64 0, .int .i64 0] rfl rfl (by kernel_rfl) (by kernel_rfl) (by kernel_rfl) O5.out (by first | rfl | simp) ?_; intro ws hst hO; have O5 := Hi hO; have OW := Hi (hst.owns OW.out (by omega)); have BL := Hi (hst.below BL.out (by omega)); clear hst hO))
      refine bodyPost_ret (v := .agg (List.toArray [.int .i64 ((x : Int) + (i : Int)), .int .i64 y, .int .i64 p, .slice (some ⟨gv, 0, none⟩) N cap, .int .i64 0, .int .i64 0])) ?_ rfl ⟨gv, cap, by rw [show ((x + i : Nat) : Int) = (x : Int) + (i : Int) from Int.natCast_add x i]; rfl, owns_keep OW.out (by rw [HD0.out]; omega) (fun _ _ _ => rfl), by rw [HD0.out]; exact BL.out⟩
      exact results_c Tryz.results163 _ _ _ [.int .i64 ((x : Int) + (i : Int)), .int .i64 y, .int .i64 p, .slice (some ⟨gv, 0, none⟩) N cap, .int .i64 0, .int .i64 0] _ rfl O5.out.range0 Tryz.underlying168 rfl (by kernel_rfl)
    · have e1 : ls.take (4 * (i + 1)) = ls.take (4 * i) ++ pxC ls i := by
        unfold pxC; rw [show 4 * (i + 1) = 4 * i + 4 by omega, List.take_add]
      obtain ⟨ci, hci⟩ : ∃ ci, pxC ls i = ci := ⟨_, rfl⟩
      have hc4 : ci.length = 4 := by rw [← hci]; unfold pxC; rw [List.length_take, List.length_drop]; omega
      have hc1 : ∀ u ∈ ci, u.oneCell' = true := by rw [← hci]; exact pxC_all HT1.out
      have HCI := Hi (range_part (L2 := ci) HTR.out (4 * i) (fun j v hv => by
        rw [← hci] at hv; unfold pxC at hv; rw [List.getElem?_take] at hv
        split at hv
        · rw [List.getElem?_drop] at hv; exact hv
        · cases hv))
      rw [Nat.zero_add] at HCI
      rw [hci] at e1
      have HE1 := Hi e1
      have HC1 := Hi hc1
      have HC4 := Hi hc4
      have htl : (ls.take (4 * i)).length = 4 * i := by rw [List.length_take]; omega
      have lO3 := O3.out.lt
      have lO4 := O4.out.lt
      have HIN := Hi hin
      clear e1 hc1 hci
      go_upto_region 6 with (fail)
      refine wp_region_noPanic ?_
      refine wp_region_held_drew (S := fun w' => Chg (fun k => k = gv) wr w') (by kernel_rfl) (Chg.refl _ _).drew (fun hHeld => ?_)
      refine wpAnyH_take (i := 0) (v := .slice (some ⟨gv, 0, none⟩) N cap) rfl (by kernel_rfl) (by kernel_rfl) (by kernel_rfl) (fun _ _ _ h => h) (Or.inl ⟨by rfl, fun w hS => by (go_simp) <;> first | rfl | assumption | (intro hh; exfalso; omega) | (exact (i64_wraps _ (by omega) (by omega)).trans (by omega)) | omega⟩) hHeld ?_
      simp only [Act.put, zq1, zq2, zq3, zq4, zq5, zq6]
      refine wpAnyH_take (i := 1) (v := .pointer (some ⟨d + 1, 2, none⟩)) rfl (by kernel_rfl) (by kernel_rfl) (by kernel_rfl) (fun _ _ _ h => h) (Or.inl ⟨by rfl, fun w hS => by (go_simp) <;> first | rfl | assumption | (intro hh; exfalso; omega) | (exact (i64_wraps _ (by omega) (by omega)).trans (by omega)) | omega⟩) hHeld ?_
      simp only [Act.put, zq1, zq2, zq3, zq4, zq5, zq6]
      refine wpAnyH_take (i := 2) (v := .int .i64 (H : Int)) rfl (by kernel_rfl) (by kernel_rfl) (by kernel_rfl) (fun _ _ _ h => h) (Or.inl ⟨by rfl, fun w hS => by (have hc : w.cell? ⟨d + 1, 2, none⟩ = some (.int .i64 (H : Int)) := (hS.cell (b := d + 1) (o := 2) (by omega) (by omega)).trans ((O4.out.cell 2).trans rfl); go_simp)⟩) hHeld ?_
      simp only [Act.put, zq1, zq2, zq3, zq4, zq5, zq6]
      refine wpAnyH_take (i := 3) (v := .int .i64 (((H : Int)) - 1)) rfl (by kernel_rfl) (by kernel_rfl) (by kernel_rfl) (fun _ _ _ h => h) (Or.inl ⟨by rfl, fun w hS => by (go_simp) <;> first | rfl | assumption | (intro hh; exfalso; omega) | (exact (i64_wraps _ (by omega) (by omega)).trans (by omega)) | omega⟩) hHeld ?_
      simp only [Act.put, zq1, zq2, zq3, zq4, zq5, zq6]
      refine wpAnyH_take (i := 4) (v := .pointer (some ⟨d, 1, none⟩)) rfl (by kernel_rfl) (by kernel_rfl) (by kernel_rfl) (fun _ _ _ h => h) (Or.inl ⟨by rfl, fun w hS => by (go_simp) <;> first | rfl | assumption | (intro hh; exfalso; omega) | (exact (i64_wraps _ (by omega) (by omega)).trans (by omega)) | omega⟩) hHeld ?_
      simp only [Act.put, zq1, zq2, zq3, zq4, zq5, zq6]
      refine wpAnyH_take (i := 5) (v := .int .i64 (y : Int)) rfl (by kernel_rfl) (by kernel_rfl) (by kernel_rfl) (fun _ _ _ h => h) (Or.inl ⟨by rfl, fun w hS => by (have hc : w.cell? ⟨d, 1, none⟩ = some (.int .i64 (y : Int)) := (hS.cell (b := d) (o := 1) (by omega) (by omega)).trans ((O3.out.cell 1).trans rfl); go_simp)⟩) hHeld ?_
      simp only [Act.put, zq1, zq2, zq3, zq4, zq5, zq6]
      refine wpAnyH_take (i := 6) (v := .int .i64 (rr : Int)) rfl (by kernel_rfl) (by kernel_rfl) (by kernel_rfl) (fun _ _ _ h => h) (Or.inl ⟨by rfl, fun w hS => by (go_simp) <;> first | rfl | assumption | (intro hh; exfalso; omega) | (exact (i64_wraps _ (by omega) (by omega)).trans (by omega)) | omega⟩) hHeld ?_
      simp only [Act.put, zq1, zq2, zq3, zq4, zq5, zq6]
      refine wpAnyH_take (i := 7) (v := .pointer (some ⟨d + 1, 1, none⟩)) rfl (by kernel_rfl) (by kernel_rfl) (by kernel_rfl) (fun _ _ _ h => h) (Or.inl ⟨by rfl, fun w hS => by (go_simp) <;> first | rfl | assumption | (intro hh; exfalso; omega) | (exact (i64_wraps _ (by omega) (by omega)).trans (by omega)) | omega⟩) hHeld ?_
      simp only [Act.put, zq1, zq2, zq3, zq4, zq5, zq6]
      refine wpAnyH_take (i := 8) (v := .int .i64 (W : Int)) rfl (by kernel_rfl) (by kernel_rfl) (by kernel_rfl) (fun _ _ _ h => h) (Or.inl ⟨by rfl, fun w hS => by (have hc : w.cell? ⟨d + 1, 1, none⟩ = some (.int .i64 (W : Int)) := (hS.cell (b := d + 1) (o := 1) (by omega) (by omega)).trans ((O4.out.cell 1).trans rfl); go_simp)⟩) hHeld ?_
      simp only [Act.put, zq1, zq2, zq3, zq4, zq5, zq6]
      refine wpAnyH_take (i := 9) (v := .int .i64 (qq : Int)) rfl (by kernel_rfl) (by kernel_rfl) (by kernel_rfl) (fun _ _ _ h => h) (Or.inl ⟨by rfl, fun w hS => by (go_simp) <;> first | rfl | assumption | (intro hh; exfalso; omega) | (exact (i64_wraps _ (by omega) (by omega)).trans (by omega)) | omega⟩) hHeld ?_
      simp only [Act.put, zq1, zq2, zq3, zq4, zq5, zq6]
      refine wpAnyH_take (i := 10) (v := .pointer (some ⟨d, 0, none⟩)) rfl (by kernel_rfl) (by kernel_rfl) (by kernel_rfl) (fun _ _ _ h => h) (Or.inl ⟨by rfl, fun w hS => by (go_simp) <;> first | rfl | assumption | (intro hh; exfalso; omega) | (exact (i64_wraps _ (by omega) (by omega)).trans (by omega)) | omega⟩) hHeld ?_
      simp only [Act.put, zq1, zq2, zq3, zq4, zq5, zq6]
      refine wpAnyH_take (i := 11) (v := .int .i64 (x : Int)) rfl (by kernel_rfl) (by kernel_rfl) (by kernel_rfl) (fun _ _ _ h => h) (Or.inl ⟨by rfl, fun w hS => by (have hc : w.cell? ⟨d, 0, none⟩ = some (.int .i64 (x : Int)) := (hS.cell (b := d) (o := 0) (by omega) (by omega)).trans ((O3.out.cell 0).trans rfl); go_simp)⟩) hHeld ?_
      simp only [Act.put, zq1, zq2, zq3, zq4, zq5, zq6]
      refine wpAnyH_take (i := 12) (v := .int .i64 ((qq + x : Nat) : Int)) rfl (by kernel_rfl) (by kernel_rfl) (by kernel_rfl) (fun _ _ _ h => h) (Or.inl ⟨by rfl, fun w hS => by (go_simp) <;> first | rfl | assumption | (intro hh; exfalso; omega) | (exact (i64_wraps _ (by omega) (by omega)).trans (by omega)) | omega⟩) hHeld ?_
      simp only [Act.put, zq1, zq2, zq3, zq4, zq5, zq6]
      refine wpAnyH_take (i := 13) (v := .int .i64 (i : Int)) rfl (by kernel_rfl) (by kernel_rfl) (by kernel_rfl) (fun _ _ _ h => h) (Or.inl ⟨by rfl, fun w hS => by (go_simp) <;> first | rfl | assumption | (intro hh; exfalso; omega) | (exact (i64_wraps _ (by omega) (by omega)).trans (by omega)) | omega⟩) hHeld ?_
      simp only [Act.put, zq1, zq2, zq3, zq4, zq5, zq6]
      refine wpAnyH_take (i := 14) (v := .int .i64 ((qq + x + i : Nat) : Int)) rfl (by kernel_rfl) (by kernel_rfl) (by kernel_rfl) (fun _ _ _ h => h) (Or.inl ⟨by rfl, fun w hS => by (go_simp) <;> first | rfl | assumption | (intro hh; exfalso; omega) | (exact (i64_wraps _ (by omega) (by omega)).trans (by omega)) | omega⟩) hHeld ?_
      simp only [Act.put, zq1, zq2, zq3, zq4, zq5, zq6]
      refine wpAnyH_take (i := 15) (v := .slice (some ⟨gl, 0, none⟩) m cl) rfl (by kernel_rfl) (by kernel_rfl) (by kernel_rfl) (fun _ _ _ h => h) (Or.inl ⟨by rfl, fun w hS => by (go_simp) <;> first | rfl | assumption | (intro hh; exfalso; omega) | (exact (i64_wraps _ (by omega) (by omega)).trans (by omega)) | omega⟩) hHeld ?_
      simp only [Act.put, zq1, zq2, zq3, zq4, zq5, zq6]
      refine wpAnyH_take (i := 16) (v := .int .i64 (i : Int)) rfl (by kernel_rfl) (by kernel_rfl) (by kernel_rfl) (fun _ _ _ h => h) (Or.inl ⟨by rfl, fun w hS => by (go_simp) <;> first | rfl | assumption | (intro hh; exfalso; omega) | (exact (i64_wraps _ (by omega) (by omega)).trans (by omega)) | omega⟩) hHeld ?_
      simp only [Act.put, zq1, zq2, zq3, zq4, zq5, zq6]
      refine wpAnyH_take (i := 17) (v := .pointer (some ⟨gl, 4 * i, none⟩)) rfl (by kernel_rfl) (by kernel_rfl) (by kernel_rfl) (fun _ _ _ h => h) (Or.inl ⟨by rfl, fun w hS => by (go_simp) <;> first | rfl | (intro hh; exfalso; omega) | (refine (if_pos ⟨by omega, by omega⟩).trans ?_; exact congrArg (fun z => Result.ok (Next.value (Value.pointer (some ⟨gl, z, none⟩))) w) (by omega))⟩) hHeld ?_
      simp only [Act.put, zq1, zq2, zq3, zq4, zq5, zq6]
      refine wpAnyH_take (i := 18) (v := .agg (List.toArray ci)) rfl (by kernel_rfl) (by kernel_rfl) (by kernel_rfl) (fun _ _ _ h => h) (yieldsIf_load_mid (by rfl) 185 _ rfl (gl) (4 * i) rfl ci _ (fun w hS => range_chg HCI.out hS (by omega) (by omega)) Tryz.underlying185 rfl (by rw [HC4.out]; kernel_rfl)) hHeld ?_
      simp only [Act.put, zq1, zq2, zq3, zq4, zq5, zq6]
      refine wpAnyH_take (i := 19) (v := .pointer (some ⟨gv, 4 * (qq + x + i), none⟩)) rfl (by kernel_rfl) (by kernel_rfl) (by kernel_rfl) (fun _ _ _ h => h) (Or.inl ⟨by rfl, fun w hS => by (go_simp) <;> first | rfl | (intro hh; exfalso; omega) | (refine (if_pos ⟨by omega, by omega⟩).trans ?_; exact congrArg (fun z => Result.ok (Next.value (Value.pointer (some ⟨gv, z, none⟩))) w) (by omega))⟩) hHeld ?_
      simp only [Act.put, zq1, zq2, zq3, zq4, zq5, zq6]
      have hpp := HPP.out
      have OW := Hi (owns_drew2 OW.out)
      have hS := (Chg.refl (fun k => k = gv) wr).drew
      have hthere := owns_there OW.out (4 * (qq + x + i)) 4 (by rw [putC_len _ _ _ (by rw [htl]; omega)]; omega)
      generalize World.drew _ = wk at OW hS hthere ⊢
      refine wpAnyH_ready (rs := [20]) (by kernel_rfl) (by simp) ?_
      refine AllReadyH.cons (o := _) rfl (fun K' hK => ?_) AllReadyH.nil
      rw [if_pos (by rfl)]
      refine wp_store_mid 185 _ _ rfl gv (4 * (qq + x + i)) ci.toArray rfl rfl (by simpa [HC4.out] using hthere) (by rw [List.size_toArray, HC4.out]; kernel_rfl) (by simpa using HC1.out) ?_
      simp only [Act.put, zq1, zq2, zq3, zq4, zq5, zq6]
      have hst : Stored wk gv (4 * (qq + x + i)) ci (wk.setCells gv (4 * (qq + x + i)) ci) := rfl
      have OW := Hi (owns_stored OW.out hst (by rw [putC_len _ _ _ (by rw [htl]; omega), HC4.out]; omega))
      have hS := hS.trans (stored_chg2 hst)
      generalize World.setCells _ _ _ _ = wk2 at OW hS ⊢
      clear hst hthere hpp
      refine hK _ _ hS (fun hH1 => ?_)
      clear hK K'
      refine wpAnyH_done (by kernel_rfl) ?_ _
      refine NoPanic.normal ?_
      have hchk := CH.out.trans hS
      go_wp2_with fail
      go_roundw
      case rel =>
        refine ⟨i + 1, by omega, by go_num, ?_, hchk⟩
        have h1 := OW.out
        rw [show 4 * (qq + x + i) = PP + (ls.take (4 * i)).length by rw [htl, ← HPP.out]; omega, putC_putC _ _ _ _ (by rw [htl, HC4.out, ← HPP.out]; omega), ← HE1.out] at h1
        exact h1
      case measure => simp [intOf]; omega
end Go.Proofs.YtlfbaggcfaenlaaGreat

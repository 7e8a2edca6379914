/- Parts. -/
import Derived.Test.YtfchnibjjokmbaaGreatK6
import Derived.Maps.OwnSet
import Derived.DeepKeys4
import Derived.Carry
set_option linter.all false
set_option maxRecDepth 100000
set_option maxHeartbeats 16000000
open Go.Value renaming int → J, pointer → Y
open Go.IntKind renaming i64 → I, u8 → U
namespace Go.Proofs.YtfchnibjjokmbaaGreat
open Go.RowKit
theorem number1 (M : Value) (w : World) : Calls Tryz.prog 92 #[.agg #[J I 24, .bool false, .bool false, .bool false], .agg #[J U 255, J U 255, J U 255, J U 255], M] w fun e w' => e = .returned (J I 16777215) ∧ Below w.heap.size w w' := by
 have O1 := Hi ((aA w #[J I 24, .bool false, .bool false, .bool false] 44).alloc (.cells #[J U 255, J U 255, J U 255, J U 255] 104))
 have O2 := Hi (aA (w.alloc (.cells #[J I 24, .bool false, .bool false, .bool false] 44)) #[J U 255, J U 255, J U 255, J U 255] 104)
 have BL := Hi (((Below.refl w.heap.size w).alloc (Nat.le_refl _) (.cells #[J I 24, .bool false, .bool false, .bool false] 44)).alloc (by simp) (.cells #[J U 255, J U 255, J U 255, J U 255] 104))
 obtain ⟨d, hd⟩ : ∃ d, w.heap.size = d := ⟨_, rfl⟩
 rw [show (w.alloc (.cells #[J I 24, .bool false, .bool false, .bool false] 44)).heap.size = d + 1 by rw [← hd]; simp] at O2
 rw [hd] at O1
 go_enter Tryz.func92, Tryz.ntmps92
 go_upto_region 1 with (fail)
 have HDe := Hi hd
 clear hd
 generalize World.alloc (World.alloc _ _) _ = w1 at O1 O2 BL ⊢
 have c0 := (O1.out.cell 0).trans (show _ = some (J I 24) from rfl)
 have a0 := (O2.out.cell 0).trans (show _ = some (J U 255) from rfl)
 have a1 := (O2.out.cell 1).trans (show _ = some (J U 255) from rfl)
 have a2 := (O2.out.cell 2).trans (show _ = some (J U 255) from rfl)
 go_wp2
 go_ret
 exact ⟨by kernel_rfl, BL.out⟩
theorem mk1i (w : World) : (Instr.makeSlice 109 (J I 1) (J I 1)).run Tryz.prog w = .ok (.slice (some ⟨w.heap.size, 0, none⟩) 1 1) (w.alloc (.cells #[J I 0] 3)) := by kernel_rfl
theorem owns_nil1 (w : World) (base : Nat) (T : TypeId) (size : Nat) : w.ownsRow base T size (.slice none 0 0) 0 [] := ⟨by simp, Or.inl ⟨rfl, rfl⟩⟩
theorem owns_cell9 {w : World} {base e n : Nat} {v : Value} {xs : List Value} (h : w.ownsRow base e 1 v n xs) (hn : 0 < n) : ∃ g cap, v = .slice (some ⟨g, 0, none⟩) n cap ∧ base ≤ g ∧ ∀ j u, xs[j]? = some u → w.cell? ⟨g, j, none⟩ = some u := by
 have h' := h
 obtain ⟨h1, ⟨rfl, h2⟩ | ⟨g, cap, cur, rfl, hb, rest⟩⟩ := h
 · omega
 · exact ⟨g, cap, rfl, hb, fun j u hu => owns_cell h' j u hu⟩
def Rows1 (w : World) (e : Ending) (w' : World) : Prop := ∃ R cap N, e = .returned (.slice (some ⟨R, 0, none⟩) 1 cap) ∧ w'.cell? ⟨R, 0, none⟩ = some (.slice (some ⟨N, 0, none⟩) 1 1) ∧ w'.cell? ⟨N, 0, none⟩ = some (J I 16777215) ∧ N < w'.heap.size ∧ Below w.heap.size w w'
theorem rows1 (G : Nat) (M : Value) (w : World) (hG : Obj1 w G #[J U 255, J U 255, J U 255, J U 255] 5) : Calls Tryz.prog 44 #[.agg #[J I 24, .bool false, .bool false, .bool false], .agg #[J I 1, J I 1, .slice (some ⟨G, 0, none⟩) 4 4], M] w (Rows1 w) := by
 have HP := Hi (fun w0 h0 => rpixel1 G w0 h0)
 have HNU := Hi (fun w0 => number1 M w0)
 have lG := hG.lt
 have OG := Hi ((hG.alloc (.cells #[J I 24, .bool false, .bool false, .bool false] 44)).alloc (.cells #[J I 1, J I 1, .slice (some ⟨G, 0, none⟩) 4 4] 29))
 have O1 := Hi ((aA w #[J I 24, .bool false, .bool false, .bool false] 44).alloc (.cells #[J I 1, J I 1, .slice (some ⟨G, 0, none⟩) 4 4] 29))
 have O2 := Hi (aA (w.alloc (.cells #[J I 24, .bool false, .bool false, .bool false] 44)) #[J I 1, J I 1, .slice (some ⟨G, 0, none⟩) 4 4] 29)
 have BL := Hi (((Below.refl w.heap.size w).alloc (Nat.le_refl _) (.cells #[J I 24, .bool false, .bool false, .bool false] 44)).alloc (by simp) (.cells #[J I 1, J I 1, .slice (some ⟨G, 0, none⟩) 4 4] 29))
 obtain ⟨d, hd⟩ : ∃ d, w.heap.size = d := ⟨_, rfl⟩
 rw [show (w.alloc (.cells #[J I 24, .bool false, .bool false, .bool false] 44)).heap.size = d + 1 by rw [← hd]; simp] at O2
 rw [hd] at O1 lG
 have HDe := Hi hd
 clear hG
 go_enter Tryz.func44, Tryz.ntmps44
 go_upto_region 1 with (fail)
 clear hd
 generalize World.alloc (World.alloc _ _) _ = w1 at OG O1 O2 BL ⊢
 have m3 : w1.cell? ⟨d, 3, none⟩ = some (.bool false) := (O1.out.cell 3).trans rfl
 have n0 : w1.cell? ⟨d + 1, 0, none⟩ = some (J I 1) := (O2.out.cell 0).trans rfl
 have n1 : w1.cell? ⟨d + 1, 1, none⟩ = some (J I 1) := (O2.out.cell 1).trans rfl
 have hmk := fun w0 => mk1i w0
 have zz := BL.out.size
 have l2 := O2.out.lt
 go_wp2_with fail
 refine wp_loop_rounds 2 ?_
 rw [rounds_succ]
 go_upto_region 9 with (fail)
 clear hmk m3 n0 n1
 have OG := Hi (OG.out.alloc (.cells #[J I 0] 3))
 have O1 := Hi (O1.out.alloc (.cells #[J I 0] 3))
 have O2 := Hi (O2.out.alloc (.cells #[J I 0] 3))
 have ON := Hi (aA w1 #[J I 0] 3)
 have BL := Hi (BL.out.alloc zz (.cells #[J I 0] 3))
 obtain ⟨N, hN⟩ : ∃ N, w1.heap.size = N := ⟨_, rfl⟩
 rw [hN] at ON l2 zz ⊢
 clear hN
 have dN : d + 1 < N := l2
 have hdN := HDe.out
 generalize World.alloc w1 _ = w2 at OG O1 O2 ON BL ⊢
 have lN := ON.out.lt
 go_wp2_with fail
 refine wp_loop_rounds 2 ?_
 rw [rounds_succ]
 go_upto_region 13 with (first
  | (refine aL (by kernel_rfl) 29 3 _ rfl (d + 1) [J I 1, J I 1, .slice (some ⟨G, 0, none⟩) 4 4] rfl rfl O2.out Tryz.underlying29 rfl (by kernel_rfl) ?_; intro _)
  | ((go_at_call 90; (with_reducible refine (HP.out _ OG.out).mono ?_); rintro e w3 ⟨rfl, hb⟩); have OG := Hi (OG.out.below hb OG.out.lt); have O1 := Hi (O1.out.below hb O1.out.lt); have O2 := Hi (O2.out.below hb O2.out.lt); have ON := Hi (ON.out.below hb ON.out.lt); have BL := Hi (BL.out.trans (hb.mono BL.out.size)); clear hb
     have OC := Hi (aA w3 #[J U 0, J U 0, J U 0, J U 0] 104)
     have OG := Hi (OG.out.alloc (.cells #[J U 0, J U 0, J U 0, J U 0] 104))
     have O1 := Hi (O1.out.alloc (.cells #[J U 0, J U 0, J U 0, J U 0] 104))
     have O2 := Hi (O2.out.alloc (.cells #[J U 0, J U 0, J U 0, J U 0] 104))
     have lN3 := ON.out.lt
     have ON := Hi (ON.out.alloc (.cells #[J U 0, J U 0, J U 0, J U 0] 104))
     have BL := Hi (BL.out.alloc BL.out.size (.cells #[J U 0, J U 0, J U 0, J U 0] 104))
     obtain ⟨c, hc⟩ : ∃ c, w3.heap.size = c := ⟨_, rfl⟩
     rw [hc] at OC lN3)
  | (refine so 104 4 (c) [J U 255, J U 255, J U 255, J U 255] OC.out ?_; intro w4 hst hO; have OC := Hi hO; have OG := Hi (hst.oth OG.out (by omega)); have O1 := Hi (hst.oth O1.out (by omega)); have O2 := Hi (hst.oth O2.out (by omega)); have ON := Hi (hst.oth ON.out (by omega)); have BL := Hi (hst.below BL.out (by have := HDe.out; omega)); clear hst hO))
 go_wp2_with (first
  | (refine aL (by kernel_rfl) 44 4 _ rfl (d) [J I 24, .bool false, .bool false, .bool false] rfl rfl O1.out Tryz.underlying44 rfl (by kernel_rfl) ?_; intro _)
  | (refine aL (by kernel_rfl) 104 4 _ rfl (c) [J U 255, J U 255, J U 255, J U 255] rfl rfl OC.out Tryz.underlying104 rfl (by kernel_rfl) ?_; intro _)
  | ((go_at_call 92; (with_reducible refine (HNU.out _).mono ?_); rintro e w5 ⟨rfl, hb⟩); have OG := Hi (OG.out.below hb OG.out.lt); have O1 := Hi (O1.out.below hb O1.out.lt); have O2 := Hi (O2.out.below hb O2.out.lt); have ON := Hi (ON.out.below hb ON.out.lt); have OC := Hi (OC.out.below hb OC.out.lt); have BL := Hi (BL.out.trans (hb.mono BL.out.size)); clear hb
     have cN : w5.cell? ⟨N, 0, none⟩ = some (J I 0) := (ON.out.cell 0).trans rfl
     have fN := ON.out.frozen 0))
 have V := Value.int .i64 16777215
 clear V cN fN
 have OG := Hi (OG.out.set_other ⟨N, 0, none⟩ (J I 16777215) (by simp; omega))
 have O1 := Hi (O1.out.set_other ⟨N, 0, none⟩ (J I 16777215) (by simp; omega))
 have O2 := Hi (O2.out.set_other ⟨N, 0, none⟩ (J I 16777215) (by simp; omega))
 have ON := Hi ((ON.out.set 0 (J I 16777215)).cells (show _ = #[J I 16777215] from rfl))
 have BL := Hi (BL.out.setCell (p := ⟨N, 0, none⟩) (by simp; omega) (J I 16777215))
 generalize World.setCell _ _ _ = w6 at OG O1 O2 ON BL ⊢
 rw [rounds_succ]
 go_wp2_with (at_builtin; refine app1k rfl (.tmp 51) (.tmp 53) 106 rfl w.heap.size 109 (.slice none 0 0) 24 Tryz.underlying106 (by kernel_rfl) rfl _ 0 [] rfl (owns_nil1 _ _ _ _) _ rfl 109 rfl (by decide) (by unfold maxLen; decide) BL.out.size ?_; intro v' w7 hown hC hg hz; have OW := Hi hown; have ON := Hi (hC.obj ON.out (fun e => by cases e)); have BL := Hi (BL.out.trans (hC.below BL.out.size (fun k hk => by cases hk))); clear hown hC hg hz)
 obtain ⟨R, cap, rfl, hR, hcl⟩ := owns_cell9 OW.out (by decide)
 rw [rounds_succ]
 go_wp2
 go_ret
 exact ⟨R, cap, N, rfl, hcl 0 _ rfl, (ON.out.cell 0).trans rfl, ON.out.lt, BL.out⟩
end Go.Proofs.YtfchnibjjokmbaaGreat
namespace Go.Proofs.YtfchnibjjokmbaaGreat
open Go.RowKit Go.Maps
theorem appSk {P : Program} {ops : Array Oper} {rest : List Oper} {o : Oper} {a : Act} {Q : Exit → Act → World → Prop} (hgd : o.guard = none) (s x : Operand) (t : TypeId)
 (ho : o.op = .call { callee := .builtin .append, args := #[s, x], argTypes := #[t, t] })
 (base : Nat) (e : TypeId) (z : Value) (size bytes : Nat) (ht : P.underlying t = some (.slice e)) (hi : (P.info? e).map (fun i => (i.zero, i.size, i.bytes)) = some (some z, size, bytes)) (hz1 : z.cells.size = size) (hsz : 0 < size)
 (v : Value) (n : Nat) (xs : List Value) (hs : a.eval s = v) {wr : World} (hown : wr.ownsRow base e size v n xs) (XS : List Value) (hl : XS.length = size) (hX : ∀ u ∈ XS, u.oneCell' = true) (T : TypeId)
 (hx : a.eval x = .slice (some ⟨wr.heap.size, 0, none⟩) 1 1) (hn : (n + 1) * bytes ≤ 140737488355328) (hn2 : n + 1 ≤ maxLen) (hbase : base ≤ wr.heap.size)
 (h : ∀ v' w', w'.ownsRow base e size v' (n + 1) (xs ++ XS) → Chg (fun k => v.ownBlock = some k) wr w' → (∀ g, v'.ownBlock = some g → v.ownBlock = some g ∨ wr.heap.size ≤ g) → base ≤ w'.heap.size → wpList P ops Q rest (a.put o.dst v') w') :
 wpList P ops Q (o :: rest) a (wr.alloc (.cells XS.toArray T)) := by
 obtain ⟨i, i1, i2, i3, i4⟩ := info_parts hi
 have hz : wr.heap.size < (wr.alloc (.cells XS.toArray T)).heap.size := by simp
 refine wpList_append_lies (w := wr.alloc (.cells XS.toArray T)) hgd s x t ho base e i z size bytes ht i1 i2 i3 i4 hz1 hsz v n xs hs (hown.alloc _) ⟨wr.heap.size, 0, none⟩ 1 1 XS hx (by omega) ?_ hX (by decide) hn2 hn (by omega) _ rfl ?_
 · intro j u hj
   rw [Addr.add_mid, Nat.zero_add, (aA wr XS.toArray T).cell]; simpa using hj
 · intro g cap w' hown' hgrow hat hlt
   have hc : Chg (fun k => v.ownBlock = some k) wr w' :=
    ((Chg.refl _ wr).alloc (.cells XS.toArray T)).trans ⟨hgrow.os, hgrow.tape, hgrow.output, hgrow.size, fun k hk hn => hgrow.block k hk (fun e => hn e.symm)⟩
   refine h _ w' hown' hc ?_ (Nat.le_trans hbase hc.size)
   intro g' hg'
   have : g = g' := by simpa [Value.ownBlock] using hg'
   subst this
   rcases hat with hat | hat
   · exact Or.inl hat
   · exact Or.inr (by rw [hat]; simp)
theorem Stored.heap {w w2 : World} {b o k : Nat} {vs : List Value} (hst : Stored w b o vs w2) (hn : k ≠ b) : w2.heap[k]? = w.heap[k]? := by
 rw [show w2 = _ from hst]; clear hst
 induction vs generalizing w o with
 | nil => rfl
 | cons v r ih => rw [World.setCells]; exact ih.trans (Below.heap_setCell _ _ _ _ hn)
theorem mapHeap {w w' : World} {P : Program} {k : TypeId} {R : Value → Option (DataW Unit × List MemPlace)} {b n : Nat} {D : DataW Unit} (h : w.ownsMap P k R b n D) (e : w'.heap[b]? = w.heap[b]?) : w'.ownsMap P k R b n D := by
 obtain ⟨es, c, hb, r⟩ := h
 exact ⟨es, c, e.trans hb, r⟩
theorem owns_form9 {w : World} {base e size n : Nat} {v : Value} {xs : List Value} (h : w.ownsRow base e size v n xs) (hn : 0 < n) : ∃ g cap, v = .slice (some ⟨g, 0, none⟩) n cap ∧ w.rangeAt g 0 xs ∧ g < w.heap.size := by
 obtain ⟨h1, ⟨rfl, h2⟩ | ⟨g, cap, cur, rfl, hb, hg, h3, h4, h5, h6⟩⟩ := h
 · omega
 · refine ⟨g, cap, rfl, fun j u hu => ?_, (Array.getElem?_eq_some_iff.1 hg).1⟩
   rw [show w.cell? ⟨g, 0 + j, none⟩ = cur[0 + j]? from Obj1.cell (T := e) hg (0 + j), Nat.zero_add]
   rw [← h6, List.getElem?_take] at hu
   split at hu
   · simpa using hu
   · cases hu
theorem laidOutP : laidOutB Tryz.prog = true := by kernel_rfl
theorem keyC : Keyed Tryz.prog 104 := Keyed.of_law (deep_law_laid laidOutP (m := 20) (by decide) (of_decide_eq_true (by kernel_rfl)) (by kernel_rfl) (by kernel_rfl))
theorem zeroI (w : World) : (zeroValue 3).run Tryz.prog w = .ok (J I 0) w := by kernel_rfl
theorem keyW : (keyOf Tryz.prog 104 (.agg #[J U 255, J U 255, J U 255, J U 255])).isSome = true := by kernel_rfl
def Colors1 (w : World) (e : Ending) (w' : World) : Prop := ∃ B cap M, e = .returned (.tuple #[.slice (some ⟨B, 0, none⟩) 1 cap, .map (some M)]) ∧ w'.rangeAt B 0 [J U 255, J U 255, J U 255, J U 255] ∧ B < w'.heap.size ∧ Below w.heap.size w w'
theorem colors1 (G : Nat) (w : World) (hG : Obj1 w G #[J U 255, J U 255, J U 255, J U 255] 5) : Calls Tryz.prog 42 #[.agg #[J I 1, J I 1, .slice (some ⟨G, 0, none⟩) 4 4]] w (Colors1 w) := by
 obtain ⟨kl, hkl⟩ := Option.isSome_iff_exists.1 keyW
 have HKL := Hi hkl
 have HP := Hi (fun w0 h0 => rpixel1 G w0 h0)
 have lG := hG.lt
 have OG := Hi (hG.alloc (.cells #[J I 1, J I 1, .slice (some ⟨G, 0, none⟩) 4 4] 29))
 have O1 := Hi (aA w #[J I 1, J I 1, .slice (some ⟨G, 0, none⟩) 4 4] 29)
 have BL := Hi ((Below.refl w.heap.size w).alloc (Nat.le_refl _) (.cells #[J I 1, J I 1, .slice (some ⟨G, 0, none⟩) 4 4] 29))
 obtain ⟨d, hd⟩ : ∃ d, w.heap.size = d := ⟨_, rfl⟩
 rw [hd] at O1 lG
 have HDe := Hi hd
 clear hG hkl
 go_enter Tryz.func42, Tryz.ntmps42
 go_upto_region 1 with (fail)
 clear hd
 generalize World.alloc _ _ = w1 at OG O1 BL ⊢
 have n0 : w1.cell? ⟨d, 0, none⟩ = some (J I 1) := (O1.out.cell 0).trans rfl
 have n1 : w1.cell? ⟨d, 1, none⟩ = some (J I 1) := (O1.out.cell 1).trans rfl
 have zz := BL.out.size
 have l1 := O1.out.lt
 have hmm := @run_makeMap Tryz.prog
 go_upto_region 3 with (fail)
 clear hmm n0 n1
 have HM := Hi (World.ownsMap_made (H := Unit) w1 Tryz.prog 104 (plainElem Tryz.prog 3))
 have OG := Hi (OG.out.alloc (.map #[] 0))
 have O1 := Hi (O1.out.alloc (.map #[] 0))
 have BL := Hi (BL.out.alloc zz (.map #[] 0))
 obtain ⟨M, hM⟩ : ∃ N, w1.heap.size = N := ⟨_, rfl⟩
 rw [hM] at HM l1 zz ⊢
 clear hM
 have hdN := HDe.out
 generalize World.alloc w1 _ = w2 at OG O1 HM BL ⊢
 have n0 : w2.cell? ⟨d, 0, none⟩ = some (J I 1) := (O1.out.cell 0).trans rfl
 have n1 : w2.cell? ⟨d, 1, none⟩ = some (J I 1) := (O1.out.cell 1).trans rfl
 have lM := HM.out.lt
 go_wp2_with fail
 refine wp_loop_rounds 2 ?_
 rw [rounds_succ]
 go_wp2_with fail
 refine wp_loop_rounds 2 ?_
 rw [rounds_succ]
 clear n0 n1
 go_upto_region 10 with (first
  | (refine aL (by kernel_rfl) 29 3 _ rfl (d) [J I 1, J I 1, .slice (some ⟨G, 0, none⟩) 4 4] rfl rfl O1.out Tryz.underlying29 rfl (by kernel_rfl) ?_; intro _)
  | ((go_at_call 90; (with_reducible refine (HP.out _ OG.out).mono ?_); rintro e w3 ⟨rfl, hb⟩); have HM := Hi (mapHeap HM.out (hb.block _ HM.out.lt)); have OG := Hi (OG.out.below hb OG.out.lt); have O1 := Hi (O1.out.below hb O1.out.lt); have BL := Hi (BL.out.trans (hb.mono BL.out.size)); clear hb
     have OC := Hi (aA w3 #[J U 0, J U 0, J U 0, J U 0] 104)
     have OG := Hi (OG.out.alloc (.cells #[J U 0, J U 0, J U 0, J U 0] 104))
     have O1 := Hi (O1.out.alloc (.cells #[J U 0, J U 0, J U 0, J U 0] 104))
     have lM3 := HM.out.lt
     have HM := Hi (HM.out.alloc (.cells #[J U 0, J U 0, J U 0, J U 0] 104))
     have BL := Hi (BL.out.alloc BL.out.size (.cells #[J U 0, J U 0, J U 0, J U 0] 104))
     obtain ⟨c, hc⟩ : ∃ c, w3.heap.size = c := ⟨_, rfl⟩
     rw [hc] at OC lM3)
  | (refine so 104 4 c [J U 255, J U 255, J U 255, J U 255] OC.out ?_; intro w4 hst hO; have OC := Hi hO; have HM := Hi (mapHeap HM.out (hst.heap (by omega))); have OG := Hi (hst.oth OG.out (by omega)); have O1 := Hi (hst.oth O1.out (by omega)); have BL := Hi (hst.below BL.out (by have := HDe.out; omega)); clear hst hO))
 go_wp2_with (first
  | (refine aL (by kernel_rfl) 104 4 _ rfl (c) [J U 255, J U 255, J U 255, J U 255] rfl rfl OC.out Tryz.underlying104 rfl (by kernel_rfl) ?_; intro _)
  | (at_lookup; refine wpList_lookup_own_ok_int _ rfl _ _ 100 rfl 104 3 .i64 keyC Tryz.underlying100 Tryz.underlying3 (zeroI _) M 0 (.map []) rfl HM.out _ kl rfl HKL.out ?_; intro mc hat hwc; rw [show has (DataW.map [] : DataW Unit) kl = false from rfl]; clear hat hwc)
  | (at_mapUpdate; refine wpList_mapUpdate_own _ rfl _ _ _ 100 rfl 104 3 keyC Tryz.underlying100 _ M 0 (.map []) rfl HM.out (by unfold maxLen; decide) _ _ kl rfl rfl HKL.out (.lit (.int .i64 0)) [] (plainElem_int Tryz.underlying3 (by decide)) ?_; intro w5 hown1 hgr; have OC := Hi ((hgr.block c OC.out.lt (by intro h; cases h; omega)).trans OC.out); have OG := Hi ((hgr.block G OG.out.lt (by intro h; cases h; omega)).trans OG.out); have BL := Hi (BL.out.trans ((show Chg (fun k => k = M) w4 w5 from ⟨hgr.os, hgr.tape, hgr.output, hgr.size, fun k hk hn => hgr.block k hk (by intro h; cases h; exact hn rfl)⟩).below BL.out.size (fun k hk => by have hk : k = M := hk; omega))); clear hown1 hgr)
  | (at_builtin; refine appSk rfl (.tmp 42) (.tmp 44) 99 rfl w.heap.size 104 (.agg #[J U 0, J U 0, J U 0, J U 0]) 4 4 Tryz.underlying99 (by kernel_rfl) rfl (by decide) _ 0 [] rfl (owns_nil1 _ _ _ _) [J U 255, J U 255, J U 255, J U 255] rfl (one_all rfl) 104 rfl (by decide) (by unfold maxLen; decide) BL.out.size ?_; intro v' w6 hown hC hg hz; have OW := Hi hown; have BL := Hi (BL.out.trans (hC.below BL.out.size (fun k hk => by cases hk))); clear hown hC hg hz))
 obtain ⟨B, cap, rfl, hR, lB⟩ := owns_form9 OW.out (by decide)
 rw [rounds_succ]
 go_wp2_with fail
 rw [rounds_succ]
 go_wp2_with fail
 go_ret2
 exact ⟨B, cap, M, rfl, hR, lB, BL.out⟩
theorem getD_mem' (l : List Int) (k : Nat) (h : k < l.length) : l.getD k 0 ∈ l := by
 rw [List.getD_eq_getElem?_getD, List.getElem?_eq_getElem h]; exact List.getElem_mem h
def goodB (d : Nat) (v : Int) : Bool := decide (0 ≤ v) && decide (v < 2 ^ d)
theorem goodB_iff (d : Nat) (v : Int) : goodB d v = true ↔ 0 ≤ v ∧ v < 2 ^ d := by simp [goodB]
def packI (l : List Int) (d : Nat) : ByteArray × Int := if l.all (goodB d) = true then (strOf (padF (packF l d l.length)), 0) else (ByteArray.empty, 2)
def Packs (w : World) (r : ByteArray × Int) (e : Ending) (w' : World) : Prop := e = .returned (.tuple #[.string r.1, J I r.2]) ∧ Below w.heap.size w w'
theorem packI_bad (l : List Int) (d k : Nat) (hk : k < l.length) (h : ¬ (0 ≤ l.getD k 0 ∧ l.getD k 0 < 2 ^ d)) : packI l d = (ByteArray.empty, 2) := by
 unfold packI
 rw [if_neg]
 intro ha
 exact h ((goodB_iff d _).1 (List.all_eq_true.1 ha _ (getD_mem' l k hk)))
theorem packI_good (l : List Int) (d : Nat) (h : ∀ k, k < l.length → 0 ≤ l.getD k 0 ∧ l.getD k 0 < 2 ^ d) : packI l d = (strOf (padF (packF l d l.length)), 0) := by
 unfold packI
 rw [if_pos]
 rw [List.all_eq_true]
 intro x hx
 obtain ⟨k, hk, rfl⟩ := List.getElem_of_mem hx
 have := h k hk
 rw [List.getD_eq_getElem?_getD, List.getElem?_eq_getElem hk] at this
 exact (goodB_iff d _).2 this
theorem good_next {l : List Int} {d k : Nat} {x : Int} (hz : ∀ j, j < k → 0 ≤ l.getD j 0 ∧ l.getD j 0 < 2 ^ d) (hx : l.getD k 0 = x) (h : 0 ≤ x ∧ x < 2 ^ d) : ∀ j, j < k + 1 → 0 ≤ l.getD j 0 ∧ l.getD j 0 < 2 ^ d := by
 intro j hj
 by_cases e : j = k
 · rw [e, hx]; exact h
 · exact hz j (by omega)
theorem dpack_24 (l : List Int) (B : Nat) (o : Nat) (cap : Nat) (w : World) (hB : B < w.heap.size) (hn : l.length ≤ 1000) (hc : ∀ i, i < l.length → w.cell? ⟨B, o + i, none⟩ = some (J I (l.getD i 0))) :
 Calls Tryz.prog 47 #[.slice (some ⟨B, o, none⟩) l.length cap, J I 24] w (Packs w (packI l 24)) := by
 have HC := Hi hc
 clear hc
 go_enter Tryz.func47, Tryz.ntmps47
 go_wp2
 go_loopw [6, 21] (fun v i wr => ∃ k : Nat, k ≤ l.length ∧ i = J I k ∧ wr.ownsRow w.heap.size 5 1 v (packF l 24 k).length ((packF l 24 k).map (.int .u8)) ∧ (∀ j, j < k → 0 ≤ l.getD j 0 ∧ l.getD j 0 < 2 ^ 24) ∧ Below w.heap.size w wr) (fun _ i _ => l.length - (intOf i).toNat)
 case atStart => exact ⟨0, by omega, rfl, World.ownsRow_nil _ _ _ _, fun j hj => by omega, Below.refl _ _⟩
 case round =>
  obtain ⟨k, hk, rfl, hown, hz, hb⟩ := hrel
  have hOwn := Hi hown
  have HZ := Hi hz
  have hb' := Hi hb
  have hsz := hb.size
  clear hown hb hz
  by_cases hlt : k < l.length
  · have hck := ((bcell hb'.out).1 B (o + k) hB).trans (HC.out k hlt)
    by_cases hgd : 0 ≤ l.getD k 0 ∧ l.getD k 0 < 2 ^ 24
    rotate_left
    · have PB := Hi (packI_bad l 24 k hlt hgd)
      have hx : l.getD k 0 < 0 ∨ 16777216 ≤ l.getD k 0 := by omega
      obtain ⟨x, hx'⟩ : ∃ x, l.getD k 0 = x := ⟨_, rfl⟩
      rw [hx'] at hck hx
      clear hgd hx'
      rcases hx with hx | hx
      all_goals
       go_wp2
       go_ret2
       exact ⟨by rw [PB.out]; rfl, hb'.out⟩
    have hgd := Hi hgd
    obtain ⟨g0, g1⟩ := hgd.out
    obtain ⟨x, hx⟩ : ∃ x, l.getD k 0 = x := ⟨_, rfl⟩
    rw [hx] at hck g0 g1 hgd
    have HX := Hi hx
    clear hx
    have g2 : x < 16777216 := by omega
    clear g1
    go_wp2
    obtain ⟨wo, rfl⟩ : ∃ wo : World, wo = wr := ⟨_, rfl⟩
    go_loopw [6, 38] (fun v i wr => ∃ j : Nat, j ≤ 3 ∧ i = J I j ∧ wr.ownsRow w.heap.size 5 1 v (packF l 24 k ++ bytesF x j).length ((packF l 24 k ++ bytesF x j).map (.int .u8)) ∧ Below w.heap.size w wr) (fun _ i _ => 3 - (intOf i).toNat)
    case atStart => exact ⟨0, by omega, rfl, by simpa [bytesF] using hOwn.out, hb'.out⟩
    case round =>
     obtain ⟨j, hj, rfl, hown, hb⟩ := hrel
     have hOwn2 := Hi hown
     have hb2 := Hi hb
     have hsz2 := hb.size
     have hlen : (packF l 24 k ++ bytesF x j).length ≤ 5000 := by rw [List.length_append, bytesF_len, packF_len l 24 k (by simp)]; omega
     clear hown hb hsz hck
     by_cases hjl : j < 3
     · go_wp2_with (at_builtin; refine app1 rfl (.tmp 41) (.tmp 47) 27 rfl w.heap.size 5 (J U 0) 1 Tryz.underlying27 (by kernel_rfl) rfl _ _ _ rfl hOwn2.out _ rfl _ rfl (by omega) (by unfold maxLen; omega) hsz2 ?_; intro v' w1 hown1 hB1 hz1; have O1 := Hi hown1; have B1 := Hi hB1; clear hown1 hB1)
       go_roundw
       case rel => exact ⟨j + 1, by omega, by go_num, owns_eq O1.out (by simp [bytesF_succ]; omega) (by simp [bytesF_succ, byteAt]), B1.out w hb2.out⟩
       case measure => simp [intOf]; omega
     · have hj2 : 3 ≤ j := by omega
       go_wp2
       go_roundw
       case rel => exact ⟨k + 1, by omega, by go_num, owns_eq hOwn2.out (by rw [packF_wide l 24 k (by decide), HX.out, show j = 3 by omega]) (by rw [packF_wide l 24 k (by decide), HX.out, show j = 3 by omega]), good_next HZ.out HX.out hgd.out, hb2.out⟩
       case measure => simp [intOf]; omega
  · have hge : l.length ≤ k := by omega
    have PG := Hi (packI_good l 24 (fun j hj => HZ.out j (by omega)))
    obtain ⟨P, hP⟩ : ∃ P, packF l 24 l.length = P := ⟨_, rfl⟩
    have hOwnP := Hi (show wr.ownsRow w.heap.size 5 1 u6 P.length (P.map (.int .u8)) by rw [← hP, ← show k = l.length by omega]; exact hOwn.out)
    have hPl : P.length ≤ 4000 := by rw [← hP, packF_len l 24 _ (by simp)]; omega
    have HP := Hi hP
    clear hP hOwn hsz
    go_wp2
    obtain ⟨wo, rfl⟩ : ∃ wo : World, wo = wr := ⟨_, rfl⟩
    go_loopw [6] (fun v wr => ∃ j : Nat, j ≤ (4 - P.length % 4) % 4 ∧ wr.ownsRow w.heap.size 5 1 v (P ++ List.replicate j 0).length ((P ++ List.replicate j 0).map (.int .u8)) ∧ Below w.heap.size w wr) (fun v _ => P.length + 4 - slLen v)
    case atStart => exact ⟨0, by omega, by simpa using hOwnP.out, hb'.out⟩
    case round =>
     obtain ⟨j, hj, hown, hb⟩ := hrel
     have hOwn2 := Hi hown
     have hb2 := Hi hb
     have hsz2 := hb.size
     obtain ⟨a, cp, hv⟩ := owns_shape hown
     have hcv := owns_string (P := Tryz.prog) hown 27 9 5 Tryz.underlying27 Tryz.underlying5 Tryz.underlying9
     obtain ⟨L, hL⟩ : ∃ L, (P ++ List.replicate j 0).length = L := ⟨_, rfl⟩
     have hLj : L = P.length + j := by rw [← hL]; simp
     have LJ := Hi hLj
     have hL2 : L ≤ 4004 := by omega
     rw [hL] at hv hOwn2
     rw [hv] at hcv hOwn2
     rw [hv]
     clear hown hb hL
     by_cases hm : L % 4 = 0
     · have ht : ((L : Int) % 4 != 0) = false := by rw [bne_eq_false_iff_eq]; omega
       have PD := Hi (pad_done P j hj (by omega))
       clear hm hLj
       go_wp2
       go_ret2
       exact ⟨by rw [PG.out, PD.out, HP.out]; rfl, hb2.out⟩
     · have ht : ((L : Int) % 4 != 0) = true := by rw [bne_iff_ne]; omega
       clear hcv hLj
       go_wp2_with (at_builtin; refine app1 rfl (.tmp 84) (.tmp 85) 27 rfl w.heap.size 5 (J U 0) 1 Tryz.underlying27 (by kernel_rfl) rfl _ _ _ rfl hOwn2.out _ rfl _ rfl (by omega) (by unfold maxLen; omega) hsz2 ?_; intro v' w1 hown1 hB1 hz1; have O1 := Hi hown1; have B1 := Hi hB1; clear hown1 hB1)
       go_roundw
       case rel => exact ⟨j + 1, by have := LJ.out; omega, owns_eq O1.out (by have := LJ.out; simp; omega) (by rw [List.replicate_succ']; simp), B1.out w hb2.out⟩
       case measure =>
        have h1 := owns_shape O1.out
        obtain ⟨a', cp', hv'⟩ := h1
        have := LJ.out
        rw [hv']; simp only [slLen]; omega
def aT (b d : Int) (i : Nat) : Int := if d = 8 then b else if i % 2 = 0 then b / 16 else b % 16
end Go.Proofs.YtfchnibjjokmbaaGreat

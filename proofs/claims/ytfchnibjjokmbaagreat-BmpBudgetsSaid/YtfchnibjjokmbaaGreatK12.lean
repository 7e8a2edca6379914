/- Parts. -/
import Derived.Test.YtfchnibjjokmbaaGreatK11
set_option linter.all false
set_option maxRecDepth 100000
set_option maxHeartbeats 16000000
open Go.Value renaming int → J, pointer → Y
open Go.IntKind renaming i64 → I, u8 → U
namespace Go.Proofs.YtfchnibjjokmbaaGreat
open Go.RowKit
def aZ (s : ByteArray) (p : Nat) : List Value :=
 if s.size < p + 4 then aN 1 s.size else
 if (aC s p 4 == 16 || aC s p 4 == 64) = true then aN 3 p else
 if aU (aC s p 4) = false then aN 2 p else
 if (s.size : Int) < p + aC s p 4 then aN 1 s.size else
 if (aC s p 4 == 12) = true then rShort (s.extract p (p + (aC s p 4).toNat)) p else
 if (aO (aj (s.extract p (p + (aC s p 4).toNat)))).2 = true then aN (aO (aj (s.extract p (p + (aC s p 4).toNat)))).1.2.1 ((p : Int) + (aO (aj (s.extract p (p + (aC s p 4).toNat)))).1.2.2)
 else rMk s p (greatH (s.extract p (p + (aC s p 4).toNat))) ((p : Int) + aC s p 4)
theorem hentry_any (sz W H : Int) (top : Bool) (dp mt co k0 k1 k2 k3 k4 k5 k6 k7 fr : Int) (w : World) :
 Calls Tryz.prog 26 #[.agg (List.toArray [J I sz, J I W, J I H, .bool top, J I dp, J I mt, J I co, J I k0, J I k1, J I k2, J I k3, J I k4, J I k5, J I k6, J I k7, J I fr])] w fun e w' => e = .returned (J I (if sz = 12 then 3 else 4)) ∧ Below w.heap.size w w' := by
 have O1 := Hi (aA w (List.toArray [J I sz, J I W, J I H, .bool top, J I dp, J I mt, J I co, J I k0, J I k1, J I k2, J I k3, J I k4, J I k5, J I k6, J I k7, J I fr]) 63)
 have BL := Hi ((Below.refl w.heap.size w).alloc (Nat.le_refl _) (.cells (List.toArray [J I sz, J I W, J I H, .bool top, J I dp, J I mt, J I co, J I k0, J I k1, J I k2, J I k3, J I k4, J I k5, J I k6, J I k7, J I fr]) 63))
 obtain ⟨x, hx⟩ : ∃ x, (if sz = 12 then (3 : Int) else 4) = x := ⟨_, rfl⟩
 rw [hx]
 by_cases h : sz = 12
 · have e : (sz == 12) = true := by rw [h]; rfl
   have E := Hi (show x = 3 by rw [← hx, if_pos h])
   clear hx
   clear h
   go_enter Tryz.func26, Tryz.ntmps26
   go_upto_region 1 with (fail)
   generalize World.alloc _ _ = w1 at O1 BL ⊢
   have c0 : w1.cell? ⟨w.heap.size, 0, none⟩ = some (J I sz) := (O1.out.cell 0).trans rfl
   go_wp2_with fail
   go_ret
   exact ⟨ret_i E.out.symm, BL.out⟩
 · have e : (sz == 12) = false := eqf h
   have E := Hi (show x = 4 by rw [← hx, if_neg h])
   clear hx
   clear h
   go_enter Tryz.func26, Tryz.ntmps26
   go_upto_region 1 with (fail)
   generalize World.alloc _ _ = w1 at O1 BL ⊢
   have c0 : w1.cell? ⟨w.heap.size, 0, none⟩ = some (J I sz) := (O1.out.cell 0).trans rfl
   go_wp2_with fail
   go_ret
   exact ⟨ret_i E.out.symm, BL.out⟩
theorem slg_any (X : Nat) (x : Sr) (w : World) (h : SrcAt w X x) : Calls Tryz.prog 36 #[Y (some ⟨X, 0, none⟩)] w fun e w' => e = .returned (Y (some ⟨x.L, 0, none⟩)) ∧ w' = w := by
 have c0 := h.c0
 clear h
 go_enter Tryz.func36, Tryz.ntmps36
 go_wp2
 go_ret
 exact ⟨rfl, rfl⟩
theorem pfree_any (P : Nat) (p : Pal) (l : Led) (w : World) (h : PalAt w P p) (hl : LedAt w p.b.L l) : Calls Tryz.prog 84 #[Y (some ⟨P, 0, none⟩)] w fun e w' =>
 (∃ b, e = .returned (.bool b)) ∧ LedAt w' p.b.L (l.give (4 * p.most : Nat)).1 ∧ Chg (fun k => k = P ∨ k = p.B ∨ k = p.b.L) w w' := by
 have OP := Hi h.obj
 have HB := Hi h.buf
 have HL := Hi hl
 have hlen := h.len
 have hPB := h.nb
 have hPg := h.ng
 have hPL := h.nl
 have HFR := Hi (fun w0 (hB : BufAt w0 p.B p.b) (hD : LedAt w0 p.b.L l) => (bfree_any p.B p.b l w0 hB hD).mono (R' := fun e w' => (∃ b, e = .returned (.bool b)) ∧ LedAt w' p.b.L (l.give (4 * p.most : Nat)).1 ∧ Chg (fun k => k = p.B ∨ k = p.b.L) w0 w') fun e w' hh => by
  rw [h.opn, if_pos rfl, hlen] at hh
  exact ⟨⟨_, hh.1⟩, hh.2.2.1, hh.2.2.2⟩)
 have k1 := (OP.out.cell 1).trans (show _ = some (J I (p.n : Int)) from rfl)
 have k2 := (OP.out.cell 2).trans (show _ = some (J I (p.most : Int)) from rfl)
 have f1 := OP.out.frozen 1
 have f2 := OP.out.frozen 2
 have k0 := (OP.out.cell 0).trans (show _ = some (Y (some ⟨p.B, 0, none⟩)) from rfl)
 have hC : Chg (fun k => k = P) w ((w.setCell ⟨P, 1, none⟩ (J I 0)).setCell ⟨P, 2, none⟩ (J I 0)) := ((Chg.refl (fun k => k = P) w).set ⟨P, 1, none⟩ _ (Or.inl rfl)).set ⟨P, 2, none⟩ _ (Or.inl rfl)
 have HC := Hi hC
 have HB := Hi (h.buf.chg hC (show ¬ p.B = P from fun e => hPB e.symm) (show ¬ p.b.g = P from fun e => hPg e.symm))
 have HL := Hi (hl.chg hC (show ¬ p.b.L = P from fun e => hPL e.symm))
 obtain ⟨B, hB⟩ : ∃ B, p.B = B := ⟨_, rfl⟩
 have HBe := Hi hB
 rw [hB] at k0 HFR HB
 clear h hl hC hlen hB
 go_enter Tryz.func84, Tryz.ntmps84
 go_wp2_with ((go_at_call 89; (with_reducible refine (HFR.out _ HB.out HL.out).mono ?_); rintro e w1 ⟨⟨bb, rfl⟩, hL1, hC1⟩); have HL1 := Hi hL1; have HC1 := Hi hC1; clear hL1 hC1)
 go_ret
 have e1 : p.B = B := HBe.out
 subst e1
 exact ⟨⟨_, rfl⟩, HL1.out, (HC.out.mono (fun k _ hk => Or.inl hk)).trans (HC1.out.mono (fun k _ hk => Or.inr hk))⟩
end Go.Proofs.YtfchnibjjokmbaaGreat

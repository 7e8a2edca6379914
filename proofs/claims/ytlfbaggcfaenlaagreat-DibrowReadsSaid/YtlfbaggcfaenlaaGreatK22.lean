/- The reference of layer 20: what Read answers. -/
import Derived.Test.YtlfbaggcfaenlaaGreatK21
import Derived.Test.YtlfbaggcfaenlaaGreatK19
import Derived.Test.YtlfbaggcfaenlaaGreatK9
import Derived.Test.YtlfbaggcfaenlaaGreatK17
import Derived.Test.YtlfbaggcfaenlaaGreatK0
namespace Go.Proofs.YtlfbaggcfaenlaaGreat
open Go.RowKit
def rRead20 (s : ByteArray) (p : Nat) : List Value :=
  if s.size < p + 4 then rBad20 1 s.size else
  if (lowK s p 4 == 16 || lowK s p 4 == 64) = true then rBad20 3 p else
  if headsB (lowK s p 4) = false then rBad20 2 p else
  if (s.size : Int) < p + lowK s p 4 then rBad20 1 s.size else
  if (lowK s p 4 == 12) = true then rShort (s.extract p (p + (lowK s p 4).toNat)) p else
  if (firstW (greatF (s.extract p (p + (lowK s p 4).toNat)))).2 = true then rBad20 (firstW (greatF (s.extract p (p + (lowK s p 4).toNat)))).1.2.1 ((p : Int) + (firstW (greatF (s.extract p (p + (lowK s p 4).toNat)))).1.2.2)
  else rMk s p (greatH (s.extract p (p + (lowK s p 4).toNat))) ((p : Int) + lowK s p 4)
end Go.Proofs.YtlfbaggcfaenlaaGreat
namespace Go.Proofs.YtlfbaggcfaenlaaGreat
open Go.RowKit
set_option linter.unusedVariables false
set_option linter.unusedSimpArgs false
set_option maxRecDepth 100000 in
theorem hentry_any (sz W H : Int) (top : Bool) (dp mt co k0 k1 k2 k3 k4 k5 k6 k7 fr : Int) (w : World) :
    Calls Tryz.prog 71 #[.agg (List.toArray [.int .i64 sz, .int .i64 W, .int .i64 H, .bool top, .int .i64 dp, .int .i64 mt, .int .i64 co, .int .i64 k0, .int .i64 k1, .int .i64 k2, .int .i64 k3, .int .i64 k4, .int .i64 k5, .int .i64 k6, .int .i64 k7, .int .i64 fr])] w fun e w' => e = .returned (.int .i64 (if sz = 12 then 3 else 4)) ∧ Below w.heap.size w w' := by
  have O1 := Hi (obj1_new w (List.toArray [.int .i64 sz, .int .i64 W, .int .i64 H, .bool top, .int .i64 dp, .int .i64 mt, .int .i64 co, .int .i64 k0, .int .i64 k1, .int .i64 k2, .int .i64 k3, .int .i64 k4, .int .i64 k5, .int .i64 k6, .int .i64 k7, .int .i64 fr]) 37)
  have BL := Hi ((Below.refl w.heap.size w).alloc (Nat.le_refl _) (.cells (List.toArray [.int .i64 sz, .int .i64 W, .int .i64 H, .bool top, .int .i64 dp, .int .i64 mt, .int .i64 co, .int .i64 k0, .int .i64 k1, .int .i64 k2, .int .i64 k3, .int .i64 k4, .int .i64 k5, .int .i64 k6, .int .i64 k7, .int .i64 fr]) 37))
  obtain ⟨x, hx⟩ : ∃ x, (if sz = 12 then (3 : Int) else 4) = x := ⟨_, rfl⟩
  rw [hx]
  by_cases h : sz = 12
  · have e : (sz == 12) = true := by rw [h]; rfl
    have E := Hi (show x = 3 by rw [← hx, if_pos h])
    clear hx
    clear h
    go_enter Tryz.func71, Tryz.ntmps71
    go_upto_region 1 with (fail)
    generalize World.alloc _ _ = w1 at O1 BL ⊢
    have c0 : w1.cell? ⟨w.heap.size, 0, none⟩ = some (.int .i64 sz) := (O1.out.cell 0).trans rfl
    go_wp2_with fail
    go_ret
    exact ⟨ret_i E.out.symm, BL.out⟩
  · have e : (sz == 12) = false := eqf h
    have E := Hi (show x = 4 by rw [← hx, if_neg h])
    clear hx
    clear h
    go_enter Tryz.func71, Tryz.ntmps71
    go_upto_region 1 with (fail)
    generalize World.alloc _ _ = w1 at O1 BL ⊢
    have c0 : w1.cell? ⟨w.heap.size, 0, none⟩ = some (.int .i64 sz) := (O1.out.cell 0).trans rfl
    go_wp2_with fail
    go_ret
    exact ⟨ret_i E.out.symm, BL.out⟩
set_option maxRecDepth 100000 in
theorem rstride_any (sz : Int) (a : Nat) (H : Int) (top : Bool) (b : Nat) (mt co k0 k1 k2 k3 fr en : Int) (w : World) (ha : a ≤ 16384) (hb : b ≤ 32) :
    Calls Tryz.prog 34 #[.agg (List.toArray [.int .i64 sz, .int .i64 (a : Nat), .int .i64 H, .bool top, .int .i64 (b : Nat), .int .i64 mt, .int .i64 co, .int .i64 k0, .int .i64 k1, .int .i64 k2, .int .i64 k3, .int .i64 fr, .int .i64 en, .int .i64 0, .int .i64 0])] w fun e w' => e = .returned (.int .i64 (strideN a b : Int)) ∧ Below w.heap.size w w' := by
  have O1 := Hi (obj1_new w (List.toArray [.int .i64 sz, .int .i64 (a : Nat), .int .i64 H, .bool top, .int .i64 (b : Nat), .int .i64 mt, .int .i64 co, .int .i64 k0, .int .i64 k1, .int .i64 k2, .int .i64 k3, .int .i64 fr, .int .i64 en, .int .i64 0, .int .i64 0]) 52)
  have BL := Hi ((Below.refl w.heap.size w).alloc (Nat.le_refl _) (.cells (List.toArray [.int .i64 sz, .int .i64 (a : Nat), .int .i64 H, .bool top, .int .i64 (b : Nat), .int .i64 mt, .int .i64 co, .int .i64 k0, .int .i64 k1, .int .i64 k2, .int .i64 k3, .int .i64 fr, .int .i64 en, .int .i64 0, .int .i64 0]) 52))
  have hm : a * b ≤ 16384 * 32 := Nat.mul_le_mul ha hb
  obtain ⟨n, hn⟩ : ∃ n, a * b = n := ⟨_, rfl⟩
  have hnI : (a : Int) * (b : Int) = (n : Int) := by rw [← hn]; exact (Int.natCast_mul a b).symm
  have eW : IntKind.i64.wrap ((a : Int) * (b : Int)) = (n : Int) := by rw [hnI]; exact i64_wraps _ (by omega) (by omega)
  obtain ⟨st, hst⟩ : ∃ st : Nat, strideN a b = st := ⟨_, rfl⟩
  have E := Hi (show st = (n + 31) / 32 * 32 / 8 by rw [← hst]; unfold strideN; rw [hn])
  rw [hst]
  clear hst
  rw [hn] at hm
  clear hn ha hb
  go_enter Tryz.func34, Tryz.ntmps34
  go_upto_region 1 with (fail)
  generalize World.alloc _ _ = w1 at O1 BL ⊢
  have c1 : w1.cell? ⟨w.heap.size, 1, none⟩ = some (.int .i64 (a : Nat)) := (O1.out.cell 1).trans rfl
  have c4 : w1.cell? ⟨w.heap.size, 4, none⟩ = some (.int .i64 (b : Nat)) := (O1.out.cell 4).trans rfl
  go_wp2_with fail
  go_loop [3] (fun v => ∃ k : Nat, n ≤ k ∧ k ≤ (n + 31) / 32 * 32 ∧ v = .int .i64 k) (fun v => (n + 31) / 32 * 32 - (intOf v).toNat)
  case atStart => exact ⟨n, by omega, by omega, by first | rfl | rw [hnI]⟩
  case round =>
    obtain ⟨k, hk0, hk1, rfl⟩ := hrel
    have eT : ((k : Int) % 32) = ((k % 32 : Nat) : Int) := rfl
    by_cases hz : k % 32 = 0
    · have D : ((k : Int) % 32 != 0) = false := by rw [eT, hz]; rfl
      have eQ : ((k : Int) / 8) = (st : Int) := by
        rw [E.out, show k = (n + 31) / 32 * 32 by omega]; rfl
      clear hz eT
      go_wp2_with fail
      go_ret
      exact ⟨rfl, BL.out⟩
    · have D : ((k : Int) % 32 != 0) = true := by rw [eT]; simp; omega
      have eW2 : IntKind.i64.wrap ((k : Int) + 1) = ((k + 1 : Nat) : Int) := by rw [show (k : Int) + 1 = ((k + 1 : Nat) : Int) by omega]; exact i64_wraps _ (by omega) (by omega)
      have hk2 : k + 1 ≤ (n + 31) / 32 * 32 := by omega
      clear hz eT
      go_wp2_with fail
      go_round
      case rel => exact ⟨k + 1, by omega, hk2, by first | rfl | go_num⟩
      case measure => simp [intOf]; omega
theorem slg_any (X : Nat) (x : Sr) (w : World) (h : SrcAt w X x) : Calls Tryz.prog 73 #[.pointer (some ⟨X, 0, none⟩)] w fun e w' => e = .returned (.pointer (some ⟨x.L, 0, none⟩)) ∧ w' = w := by
  have c0 := h.c0
  clear h
  go_enter Tryz.func73, Tryz.ntmps73
  go_wp2
  go_ret
  exact ⟨rfl, rfl⟩
set_option maxRecDepth 100000 in
set_option maxHeartbeats 4000000 in
theorem pfree_any (P : Nat) (p : Pal) (l : Led) (w : World) (h : PalAt w P p) (hl : LedAt w p.b.L l) : Calls Tryz.prog 75 #[.pointer (some ⟨P, 0, none⟩)] w fun e w' =>
      (∃ b, e = .returned (.bool b)) ∧ LedAt w' p.b.L (l.give (4 * p.most : Nat)).1 ∧ Chg (fun k => k = P ∨ k = p.B ∨ k = p.b.L) w w' := by
  have OP := Hi h.obj
  have HB := Hi h.buf
  have HL := Hi hl
  have hlen := h.len
  have hPB := h.nb
  have hPg := h.ng
  have hPL := h.nl
  have HFR := Hi (fun w0 (hB : BufAt w0 p.B p.b) (hD : LedAt w0 p.b.L l) => (bfree_any p.B p.b l w0 hB hD).mono (R' := fun e w' => (∃ b, e = .returned (.bool b)) ∧ LedAt w' p.b.L (l.give (4 * p.most : Nat)).1 ∧ Chg (fun k => k = p.B ∨ k = p.b.L) w0 w') fun e w' hh => by
    rw [h.opn, if_pos rfl, hlen] at hh
    exact ⟨⟨_, hh.1⟩, hh.2.2.1, hh.2.2.2⟩)
  have k1 := (OP.out.cell 1).trans (show _ = some (.int .i64 (p.n : Int)) from rfl)
  have k2 := (OP.out.cell 2).trans (show _ = some (.int .i64 (p.most : Int)) from rfl)
  have f1 := OP.out.frozen 1
  have f2 := OP.out.frozen 2
  have k0 := (OP.out.cell 0).trans (show _ = some (.pointer (some ⟨p.B, 0, none⟩)) from rfl)
  have hC : Chg (fun k => k = P) w ((w.setCell ⟨P, 1, none⟩ (.int .i64 0)).setCell ⟨P, 2, none⟩ (.int .i64 0)) := ((Chg.refl (fun k => k = P) w).set ⟨P, 1, none⟩ _ (Or.inl rfl)).set ⟨P, 2, none⟩ _ (Or.inl rfl)
  have HC := Hi hC
  have HB := Hi (h.buf.chg hC (show ¬ p.B = P from fun e => hPB e.symm) (show ¬ p.b.g = P from fun e => hPg e.symm))
  have HL := Hi (hl.chg hC (show ¬ p.b.L = P from fun e => hPL e.symm))
  obtain ⟨B, hB⟩ : ∃ B, p.B = B := ⟨_, rfl⟩
  have HBe := Hi hB
  rw [hB] at k0 HFR HB
  clear h hl hC hlen hB
  go_enter Tryz.func75, Tryz.ntmps75
  go_wp2_with ((go_at_call 147; (with_reducible refine (HFR.out _ HB.out HL.out).mono ?_); rintro e w1 ⟨⟨bb, rfl⟩, hL1, hC1⟩); have HL1 := Hi hL1; have HC1 := Hi hC1; clear hL1 hC1)
  go_ret
  have e1 : p.B = B := HBe.out
  subst e1
  exact ⟨⟨_, rfl⟩, HL1.out, (HC.out.mono (fun k _ hk => Or.inl hk)).trans (HC1.out.mono (fun k _ hk => Or.inr hk))⟩
end Go.Proofs.YtlfbaggcfaenlaaGreat

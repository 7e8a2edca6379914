/- Parts. -/
import Derived.Test.YtfchnibjjokmbaaGreatK23
import Derived.Test.YtfchnibjjokmbaaGreatK20
set_option linter.all false
set_option maxRecDepth 100000
set_option maxHeartbeats 16000000
open Go.Value renaming int → J, pointer → Y
open Go.IntKind renaming i64 → I, u8 → U
namespace Go.Proofs.YtfchnibjjokmbaaGreat
open Go.RowKit
structure QCost (K : QK) (σ : QS) (q : QS × (Int × Int)) (c : Nat) : Prop where
 ok : q.1.l.ok
 lw : ∃ k, LW σ.l q.1.l k ∧ k ≤ c
 a1 : q.1.a ≤ K.x.e
 br : q.1.l.br = true → q.2.1 = 4 ∧ 0 ≤ q.2.2 ∧ q.2.2 ≤ K.x.e
 len : q.1.d.length = σ.d.length
theorem QCost.trans {K : QK} {σ τ : QS} {t : Int × Int} {q : QS × (Int × Int)} {c c' : Nat} (h : QCost K σ (τ, t) c) (hb : τ.l.br = false) (g : QCost K τ q c') : QCost K σ q (c + c') := by
 obtain ⟨k1, l1, b1⟩ := h.lw
 obtain ⟨k2, l2, b2⟩ := g.lw
 exact ⟨g.ok, ⟨k1 + k2, l1.trans hb l2, by omega⟩, g.a1, g.br, g.len.trans h.len⟩
theorem QCost.mono {K : QK} {σ : QS} {q : QS × (Int × Int)} {c c' : Nat} (h : QCost K σ q c) (hc : c ≤ c') : QCost K σ q c' := by
 obtain ⟨k1, l1, b1⟩ := h.lw
 exact ⟨h.ok, ⟨k1, l1, by omega⟩, h.a1, h.br, h.len⟩
theorem QCost.stay {K : QK} {σ : QS} (ho : σ.l.ok) (hb : σ.l.br = false) (ha : σ.a ≤ K.x.e) (t : Int × Int) : QCost K σ (σ, t) 0 :=
 ⟨ho, ⟨0, LW.refl _, Nat.le_refl _⟩, ha, (fun h => by rw [hb] at h; cases h), rfl⟩
theorem qnext_cost {K : QK} {σ : QS} (ho : σ.l.ok) (hb : σ.l.br = false) (ha : σ.a ≤ K.x.e) (n : Nat) :
 (K.next σ n = (⟨σ.now, σ.left, σ.a + n, (σ.l.work 1).1, σ.d⟩, (K.x.s.extract σ.a (σ.a + n), true)) ∧ (σ.l.work 1).1.br = false ∧ σ.a + n ≤ K.x.e ∧ (σ.l.work 1).1.ok ∧ LW σ.l (σ.l.work 1).1 1) ∨
 (K.next σ n = (⟨σ.now, σ.left, σ.a, (σ.l.work 1).1, σ.d⟩, (ByteArray.empty, false)) ∧ (σ.l.work 1).1.ok ∧ (∃ k, LW σ.l (σ.l.work 1).1 k ∧ k ≤ 1) ∧ ((σ.l.work 1).1.br = true → K.ft (σ.l.work 1).1 σ.a = (4, (σ.a : Int))) ∧ ((σ.l.work 1).1.br = false → K.x.e < σ.a + n ∧ K.ft (σ.l.work 1).1 σ.a = (1, (K.x.e : Int)))) := by
 have hok := Led.work_ok ho 1
 rcases LW.one hb ho with ⟨h1, h2, h3⟩ | ⟨h1, h2, h3⟩
 · by_cases hn : n ≤ K.x.e - σ.a
   · left
     exact ⟨by unfold QK.next; rw [if_pos ⟨h1, hn⟩], h3, by omega, hok, h2⟩
   · right
     refine ⟨by unfold QK.next; rw [if_neg (fun h => hn h.2)], hok, ⟨1, h2, Nat.le_refl _⟩, (fun h => by rw [h3] at h; cases h), fun _ => ⟨by omega, ?_⟩⟩
     unfold QK.ft; rw [if_neg (by rw [h3]; decide)]
 · right
   refine ⟨by unfold QK.next; rw [if_neg (fun h => by rw [h1] at h; cases h.1)], hok, ⟨0, h2, by omega⟩, fun _ => ?_, (fun h => by rw [h3] at h; cases h)⟩
   unfold QK.ft; rw [if_pos h3]
structure QPos (K : QK) (fr x : Nat) (σ : QS) : Prop where
 a : σ.a = fr + (x * K.dp + 7) / 8
 l : σ.left = (8 - x * K.dp % 8) % 8
 n : x * K.dp % 8 ≠ 0 → (σ.now : Int) = aG K.x.s (fr + x * K.dp / 8)
structure QSame (K : QK) (h : H21) (tb : List Value) (M : Nat) : Prop where
 dp : K.dp = h.dp
 dk : dpOk K.dp
 es : K.x.e ≤ K.x.s.size
 pn : K.dp ≤ 8 → K.p.n = M
 px : K.dp ≤ 8 → ∀ e : Nat, e < M → c4v (c4e (K.p.ent e)) = pxC tb e
 wc : K.dp = 16 ∨ K.dp = 32 → ∀ v, c4v (K.wcol v) = colR v h.r h.g h.b h.q
 W : K.r.w = h.W
 H : K.r.h = h.H
def pixE (h : H21) (s : ByteArray) (tb : List Value) (M te fr x : Nat) : E22 (List Value) := if te < fr + x * h.dp / 8 + wsz h.dp then .error (1, te) else px21 h s tb M (fr + x * h.dp / 8) x
structure PixSim (K : QK) (h : H21) (tb : List Value) (M fr x : Nat) (σ : QS) : Prop where
 c : QCost K σ ((K.pix σ).1, (K.pix σ).2.2) 1
 d : (K.pix σ).1.d = σ.d
 y : (K.pix σ).1.l.br = false → match pixE h K.x.s tb M K.x.e fr x with
  | .error z => (K.pix σ).2.2 = z ∧ z.1 ≠ 0
  | .ok cs => (K.pix σ).2.2 = (0, 0) ∧ c4v (K.pix σ).2.1 = cs ∧ QPos K fr (x + 1) (K.pix σ).1
theorem num_low (s : ByteArray) (p k : Nat) (h : p + k ≤ s.size) : numB (s.extract p (p + k)) true = aC s p k := by
 have hz : (s.extract p (p + k)).size = k := by rw [ByteArray.size_extract]; omega
 unfold numB
 rw [if_pos rfl, hz]
 exact lowK_lo s p (p + k) k (Nat.le_refl _) h
theorem pix_sim {K : QK} {h : H21} {tb : List Value} {M : Nat} (hs : QSame K h tb M) (fr x : Nat) (σ : QS) (ho : σ.l.ok) (hb : σ.l.br = false) (ha : σ.a ≤ K.x.e) (hp : QPos K fr x σ) : PixSim K h tb M fr x σ := by
 obtain ⟨pa, pl, pn⟩ := hp
 have hdk := hs.dk
 have hes := hs.es
 have hdp := hs.dp
 by_cases h1 : K.dp = 16 ∨ K.dp = 32
 · -- a word
   have hz : K.wz = K.dp / 8 := by unfold QK.wz; rcases h1 with e | e <;> rw [e] <;> decide
   have ez : wsz h.dp = K.dp / 8 := by unfold wsz; rw [← hdp, if_pos (by omega)]
   have e8 : x * K.dp % 8 = 0 := by rcases h1 with e | e <;> rw [e] <;> omega
   have ea : σ.a = fr + x * K.dp / 8 := by rw [pa]; omega
   have el : σ.left = 0 := by rw [pl, e8]
   have epix : K.pix σ = K.word σ := by unfold QK.pix; rw [if_pos h1]
   have hnp : (x + 1) * K.dp = x * K.dp + K.dp := by rw [Nat.add_mul, Nat.one_mul]
   have hpd : (x * K.dp + K.dp) % 8 = 0 := by rcases h1 with e | e <;> rw [e] at e8 ⊢ <;> omega
   rcases qnext_cost ho hb ha (K.dp / 8) with ⟨n1, n2, n3, n4, n5⟩ | ⟨n1, n2, n3, n4, n5⟩
   · have ew : K.word σ = (⟨σ.now, σ.left, σ.a + K.dp / 8, (σ.l.work 1).1, σ.d⟩, (K.wcol (aC K.x.s σ.a (K.dp / 8)), (0, 0))) := by
      unfold QK.word QK.wordB
      rw [hz, n1, num_low _ _ _ (by omega)]; rfl
     refine ⟨?_, ?_, ?_⟩
     · rw [epix, ew]; exact ⟨n4, ⟨1, n5, Nat.le_refl _⟩, n3, (fun hh => by rw [show ((⟨σ.now, σ.left, σ.a + K.dp / 8, (σ.l.work 1).1, σ.d⟩ : QS).l.br = false) from n2] at hh; cases hh), rfl⟩
     · rw [epix, ew]
     · intro _
       have e1 : pixE h K.x.s tb M K.x.e fr x = .ok (colR (aC K.x.s σ.a (K.dp / 8)) h.r h.g h.b h.q) := by
        unfold pixE px21
        rw [ez, ← hdp, ← ea, if_neg (by omega), if_neg (by omega), if_neg (by omega)]
       rw [e1, epix, ew]
       refine ⟨rfl, hs.wc h1 _, ⟨?_, ?_, fun hh => absurd (by rw [hnp]; exact hpd) hh⟩⟩
       · show σ.a + K.dp / 8 = _; rw [hnp]; rcases h1 with e | e <;> rw [e] at ea e8 ⊢ <;> omega
       · show σ.left = _; rw [hnp, hpd, el]
   · have ew : K.word σ = (⟨σ.now, σ.left, σ.a, (σ.l.work 1).1, σ.d⟩, (c4z, K.ft (σ.l.work 1).1 σ.a)) := by
      unfold QK.word QK.wordB
      rw [hz, n1]; exact if_neg (fun h => by cases h)
     refine ⟨?_, ?_, ?_⟩
     · rw [epix, ew]; exact ⟨n2, n3, ha, fun hh => by rw [n4 hh]; exact ⟨rfl, by simp only; omega, by simp only; omega⟩, rfl⟩
     · rw [epix, ew]
     · intro hbr
       rw [epix, ew] at hbr
       obtain ⟨m1, m2⟩ := n5 hbr
       have e1 : pixE h K.x.s tb M K.x.e fr x = .error (1, (K.x.e : Int)) := by
        unfold pixE
        rw [ez, ← hdp, ← ea, if_pos (by omega)]
       rw [e1, epix, ew]
       exact ⟨m2, by show (1 : Int) ≠ 0; decide⟩
 · by_cases h2 : K.dp = 24
   · -- three bytes
     have ez : wsz h.dp = 3 := by unfold wsz; rw [← hdp, h2]; rfl
     have e8 : x * K.dp % 8 = 0 := by rw [h2]; omega
     have ea : σ.a = fr + x * K.dp / 8 := by rw [pa]; omega
     have el : σ.left = 0 := by rw [pl, e8]
     have epix : K.pix σ = K.thr σ := by unfold QK.pix; rw [if_neg h1, if_pos h2]
     have hnp : (x + 1) * K.dp = x * K.dp + K.dp := by rw [Nat.add_mul, Nat.one_mul]
     have hpd : (x * K.dp + K.dp) % 8 = 0 := by rw [h2] at e8 ⊢; omega
     rcases qnext_cost ho hb ha 3 with ⟨n1, n2, n3, n4, n5⟩ | ⟨n1, n2, n3, n4, n5⟩
     · have ew : K.thr σ = (⟨σ.now, σ.left, σ.a + 3, (σ.l.work 1).1, σ.d⟩, (c4t (K.x.s.extract σ.a (σ.a + 3)), (0, 0))) := by
        unfold QK.thr QK.thrB
        rw [n1, if_pos rfl]
       refine ⟨?_, ?_, ?_⟩
       · rw [epix, ew]; exact ⟨n4, ⟨1, n5, Nat.le_refl _⟩, n3, (fun hh => by rw [show ((⟨σ.now, σ.left, σ.a + 3, (σ.l.work 1).1, σ.d⟩ : QS).l.br = false) from n2] at hh; cases hh), rfl⟩
       · rw [epix, ew]
       · intro _
         have e1 : pixE h K.x.s tb M K.x.e fr x = .ok [J U (aG K.x.s (σ.a + 2)), J U (aG K.x.s (σ.a + 1)), J U (aG K.x.s σ.a), J U 255] := by
          unfold pixE px21
          rw [ez, ← hdp, ← ea, if_neg (by omega), if_neg (by omega), if_pos h2]
         rw [e1, epix, ew]
         refine ⟨rfl, ?_, ⟨?_, ?_, fun hh => absurd (by rw [hnp]; exact hpd) hh⟩⟩
         · show c4v (c4t _) = _
           unfold c4v c4t
           simp only
           rw [byN_ext _ _ _ 0 (by omega) (by omega), byN_ext _ _ _ 1 (by omega) (by omega), byN_ext _ _ _ 2 (by omega) (by omega)]
           rfl
         · show σ.a + 3 = _; rw [hnp, h2] at *; omega
         · show σ.left = _; rw [hnp, hpd, el]
     · have ew : K.thr σ = (⟨σ.now, σ.left, σ.a, (σ.l.work 1).1, σ.d⟩, (c4z, K.ft (σ.l.work 1).1 σ.a)) := by
        unfold QK.thr QK.thrB
        rw [n1]; exact if_neg (fun h => by cases h)
       refine ⟨?_, ?_, ?_⟩
       · rw [epix, ew]; exact ⟨n2, n3, ha, fun hh => by rw [n4 hh]; exact ⟨rfl, by simp only; omega, by simp only; omega⟩, rfl⟩
       · rw [epix, ew]
       · intro hbr
         rw [epix, ew] at hbr
         obtain ⟨m1, m2⟩ := n5 hbr
         have e1 : pixE h K.x.s tb M K.x.e fr x = .error (1, (K.x.e : Int)) := by
          unfold pixE
          rw [ez, ← hdp, ← ea, if_pos (by omega)]
         rw [e1, epix, ew]
         exact ⟨m2, by show (1 : Int) ≠ 0; decide⟩
   · -- a number
     have h3 : K.dp = 1 ∨ K.dp = 4 ∨ K.dp = 8 := by unfold dpOk at hdk; omega
     have h8 : K.dp ≤ 8 := by omega
     have ez : wsz h.dp = 1 := by unfold wsz; rw [← hdp, if_neg (by omega)]
     have epix : K.pix σ = K.num σ := by unfold QK.pix; rw [if_neg h1, if_neg h2]
     have hnp : (x + 1) * K.dp = x * K.dp + K.dp := by rw [Nat.add_mul, Nat.one_mul]
     obtain ⟨xd, hxd⟩ : ∃ m, x * K.dp = m := ⟨_, rfl⟩
     have hmod : xd % 8 + K.dp ≤ 8 := by rcases h3 with e | e | e <;> rw [e] at hxd ⊢ <;> omega
     rw [hxd] at pa pl pn hnp
     have hnum : ∀ (τ : QS) (v : Nat), K.bits σ = (τ, some v) → τ.l.ok → (∃ k, LW σ.l τ.l k ∧ k ≤ 1) → τ.l.br = false → τ.a ≤ K.x.e → τ.d = σ.d → τ.a = fr + xd / 8 + 1 → fr + xd / 8 < K.x.e → v = (ent21 (aG K.x.s (fr + xd / 8)) K.dp x).toNat → QPos K fr (x + 1) τ → PixSim K h tb M fr x σ := by
      intro τ v hbits t0 tl tb' ta td tp tin hv tpos
      have hent := ent21_bd (aG K.x.s (fr + xd / 8)) K.dp x (aS _ _).1
      have epx : pixE h K.x.s tb M K.x.e fr x = if v < M then .ok (pxC tb v) else .error (2, ((fr + xd / 8 : Nat) : Int)) := by
       unfold pixE px21
       rw [ez, ← hdp, hxd, if_neg (by omega), if_pos h8, hv]
      by_cases hm : v < M
      · have hh : K.p.has (v : Int) = true := by unfold Pal.has; rw [decide_eq_true_iff, hs.pn h8]; omega
        have ew : K.num σ = (τ, (c4e (K.p.ent v), (0, 0))) := by unfold QK.num; rw [hbits]; unfold QK.nmB; exact if_pos hh
        refine ⟨?_, ?_, ?_⟩
        · rw [epix, ew]; exact ⟨t0, tl, ta, (fun h => by rw [show (τ.l.br = false) from tb'] at h; cases h), by rw [show ((τ, c4e (K.p.ent v), ((0 : Int), (0 : Int))).1.d = σ.d) from td]⟩
        · rw [epix, ew]; exact td
        · intro _
          rw [epx, if_pos hm, epix, ew]
          exact ⟨rfl, hs.px h8 v hm, tpos⟩
      · have hh : K.p.has (v : Int) = false := by unfold Pal.has; rw [decide_eq_false_iff_not, hs.pn h8]; omega
        have ew : K.num σ = (τ, (c4z, (2, (τ.a : Int) - 1))) := by unfold QK.num; rw [hbits]; unfold QK.nmB; exact if_neg (by rw [hh]; decide)
        refine ⟨?_, ?_, ?_⟩
        · rw [epix, ew]; exact ⟨t0, tl, ta, (fun h => by rw [show (τ.l.br = false) from tb'] at h; cases h), by rw [show ((τ, c4z, ((2 : Int), (τ.a : Int) - 1)).1.d = σ.d) from td]⟩
        · rw [epix, ew]; exact td
        · intro _
          rw [epx, if_neg hm, epix, ew]
          refine ⟨?_, by show (2 : Int) ≠ 0; decide⟩
          show ((2 : Int), (τ.a : Int) - 1) = _
          rw [tp, show (((fr + xd / 8 + 1 : Nat) : Int) - 1) = ((fr + xd / 8 : Nat) : Int) by omega]
     have hval : ∀ B : Nat, (B : Int) = aG K.x.s (fr + xd / 8) → valB B (8 - xd % 8) K.dp = (ent21 (aG K.x.s (fr + xd / 8)) K.dp x).toNat := by
      intro B hB
      unfold ent21 valB
      rw [← hB, hxd, show 8 - xd % 8 - K.dp = 8 - K.dp - xd % 8 by omega]
      have h1 : (B : Int) / 2 ^ (8 - K.dp - xd % 8) % 2 ^ K.dp = ((B / 2 ^ (8 - K.dp - xd % 8) % 2 ^ K.dp : Nat) : Int) := by simp
      rw [h1, Int.toNat_natCast]
     by_cases hz : xd % 8 = 0
     · have el : σ.left = 0 := by rw [pl, hz]
       have ea : σ.a = fr + xd / 8 := by rw [pa]; omega
       rcases qnext_cost ho hb ha 1 with ⟨n1, n2, n3, n4, n5⟩ | ⟨n1, n2, n3, n4, n5⟩
       · have hbn := aS K.x.s σ.a
         have hB : (((aG K.x.s σ.a).toNat : Nat) : Int) = aG K.x.s (fr + xd / 8) := by rw [← ea]; exact Int.toNat_of_nonneg hbn.1
         have hbits : K.bits σ = (⟨(aG K.x.s σ.a).toNat, 8 - K.dp, σ.a + 1, (σ.l.work 1).1, σ.d⟩, some (valB (aG K.x.s σ.a).toNat 8 K.dp)) := by
          unfold QK.bits; rw [if_pos el, n1]; exact if_pos rfl
         refine hnum _ _ hbits n4 ⟨1, n5, Nat.le_refl _⟩ n2 n3 rfl (by show σ.a + 1 = _; omega) (by omega) ?_ ⟨?_, ?_, fun hh => ?_⟩
         · have := hval _ hB; rw [hz] at this; exact this
         · show σ.a + 1 = _; rw [hnp]; omega
         · show 8 - K.dp = _; rw [hnp]; rcases h3 with e | e | e <;> rw [e] at hmod ⊢ <;> omega
         · show (((aG K.x.s σ.a).toNat : Nat) : Int) = _; rw [hB, hnp]; rw [hnp] at hh; congr 2; omega
       · have ew : K.num σ = (⟨σ.now, σ.left, σ.a, (σ.l.work 1).1, σ.d⟩, (c4z, K.ft (σ.l.work 1).1 σ.a)) := by
          have hbits : K.bits σ = (⟨σ.now, σ.left, σ.a, (σ.l.work 1).1, σ.d⟩, none) := by
           unfold QK.bits; rw [if_pos el, n1]; exact if_neg (fun h => by cases h)
          unfold QK.num; rw [hbits]; rfl
         refine ⟨?_, ?_, ?_⟩
         · rw [epix, ew]; exact ⟨n2, n3, ha, fun hh => by rw [n4 hh]; exact ⟨rfl, by simp only; omega, by simp only; omega⟩, rfl⟩
         · rw [epix, ew]
         · intro hbr
           rw [epix, ew] at hbr
           obtain ⟨m1, m2⟩ := n5 hbr
           have e1 : pixE h K.x.s tb M K.x.e fr x = .error (1, (K.x.e : Int)) := by
            unfold pixE
            rw [ez, ← hdp, hxd, if_pos (by omega)]
           rw [e1, epix, ew]
           exact ⟨m2, by show (1 : Int) ≠ 0; decide⟩
     · have el : σ.left = 8 - xd % 8 := by rw [pl]; omega
       have hbits : K.bits σ = (⟨σ.now, σ.left - K.dp, σ.a, σ.l, σ.d⟩, some (valB σ.now σ.left K.dp)) := by
        unfold QK.bits; rw [if_neg (by omega)]
       refine hnum _ _ hbits ho ⟨0, LW.refl _, by omega⟩ hb ha rfl (by show σ.a = _; omega) (by omega) ?_ ⟨?_, ?_, fun hh => ?_⟩
       · rw [el]; exact hval _ (pn hz)
       · show σ.a = _; rw [hnp]; omega
       · show σ.left - K.dp = _; rw [hnp, el]; omega
       · show (σ.now : Int) = _; rw [pn hz, hnp]; rw [hnp] at hh; congr 2; omega
theorem qput_cost {K : QK} {σ : QS} (ho : σ.l.ok) (hb : σ.l.br = false) (ha : σ.a ≤ K.x.e) (x y : Nat) (c : C4) :
 (K.putC σ x y c = (⟨σ.now, σ.left, σ.a, (σ.l.work 1).1, put4 σ.d (4 * (y * K.r.w + x)) c.1 c.2.1 c.2.2.1 c.2.2.2⟩, true) ∧ (σ.l.work 1).1.br = false ∧ (σ.l.work 1).1.ok ∧ LW σ.l (σ.l.work 1).1 1) ∨
 (K.putC σ x y c = (⟨σ.now, σ.left, σ.a, (σ.l.work 1).1, σ.d⟩, false) ∧ (σ.l.work 1).1.br = true ∧ (σ.l.work 1).1.ok ∧ LW σ.l (σ.l.work 1).1 0 ∧ K.ft (σ.l.work 1).1 σ.a = (4, (σ.a : Int))) := by
 have hok := Led.work_ok ho 1
 rcases LW.one hb ho with ⟨h1, h2, h3⟩ | ⟨h1, h2, h3⟩
 · exact Or.inl ⟨by unfold QK.putC QK.put; rw [if_pos h1], h3, hok, h2⟩
 · exact Or.inr ⟨by unfold QK.putC QK.put; rw [if_neg (by rw [h1]; decide)], h3, hok, h2, by unfold QK.ft; rw [if_pos h3]⟩
structure RowSim (K : QK) (σ : QS) (q : QS × (Int × Int)) (c : Nat) (R : E22 (List Value)) (P : QS → Prop) : Prop where
 c : QCost K σ q c
 y : q.1.l.br = false → match R with
  | .error z => q.2 = z ∧ z.1 ≠ 0
  | .ok L => q.2 = (0, 0) ∧ aY q.1.d = L ∧ P q.1
theorem row_sim {K : QK} {h : H21} {tb : List Value} {M : Nat} (hs : QSame K h tb M) (fr y : Nat) (hy : y < h.H) : ∀ (c x : Nat) (σ : QS), x + c = h.W → σ.l.ok → σ.l.br = false → σ.a ≤ K.x.e → σ.d.length = 4 * (h.W * h.H) → QPos K fr x σ →
 RowSim K σ (K.row y c x σ) (2 * c) (row21 h K.x.s tb M K.x.e fr y c x (aY σ.d)) (QPos K fr h.W)
 | 0, x, σ, hx, ho, hb, ha, hl, hp => by
   have hx : x = h.W := hx
   subst hx
   exact ⟨QCost.stay ho hb ha _, fun _ => ⟨rfl, rfl, hp⟩⟩
 | c + 1, x, σ, hx, ho, hb, ha, hl, hp => by
   have hm : (y + 1) * h.W ≤ h.H * h.W := Nat.mul_le_mul_right _ hy
   rw [Nat.add_mul, Nat.one_mul, Nat.mul_comm h.H] at hm
   obtain ⟨pc, pd, py⟩ := pix_sim hs fr x σ ho hb ha hp
   have er : row21 h K.x.s tb M K.x.e fr y (c + 1) x (aY σ.d) = bindE (pixE h K.x.s tb M K.x.e fr x) fun cs => row21 h K.x.s tb M K.x.e fr y c (x + 1) (putC (aY σ.d) (4 * (y * h.W + x)) cs) := by
    rw [row21]; unfold pixE; split <;> rfl
   rw [er]
   obtain ⟨Q, hQ⟩ : ∃ Q, K.pix σ = Q := ⟨_, rfl⟩
   rw [hQ] at pc pd py
   have ek : K.row y (c + 1) x σ = if Q.2.2.1 = 0 then (if (K.putC Q.1 x y Q.2.1).2 = true then K.row y c (x + 1) (K.putC Q.1 x y Q.2.1).1 else ((K.putC Q.1 x y Q.2.1).1, K.ft (K.putC Q.1 x y Q.2.1).1.l (K.putC Q.1 x y Q.2.1).1.a)) else (Q.1, Q.2.2) := by rw [QK.row, hQ]
   rw [ek]
   cases hbr : Q.1.l.br with
   | true =>
     have h4 := (pc.br hbr).1
     rw [if_neg (by show ¬ Q.2.2.1 = 0; rw [show Q.2.2.1 = 4 from h4]; decide)]
     exact ⟨pc.mono (by omega), fun hh => by rw [show Q.1.l.br = false from hh] at hbr; cases hbr⟩
   | false =>
     have hpy := py hbr
     cases hpe : pixE h K.x.s tb M K.x.e fr x with
     | error z =>
       rw [hpe] at hpy
       obtain ⟨g1, g2⟩ := hpy
       rw [if_neg (by rw [g1]; exact g2)]
       exact ⟨pc.mono (by omega), fun _ => ⟨g1, g2⟩⟩
     | ok cs =>
       rw [hpe] at hpy
       obtain ⟨g1, g2, g3⟩ := hpy
       rw [if_pos (by rw [g1])]
       rcases qput_cost (K := K) pc.ok hbr pc.a1 x y Q.2.1 with ⟨u1, u2, u3, u4⟩ | ⟨u1, u2, u3, u4, u5⟩
       · obtain ⟨τ, hτ⟩ : ∃ τ : QS, (⟨Q.1.now, Q.1.left, Q.1.a, (Q.1.l.work 1).1, put4 Q.1.d (4 * (y * K.r.w + x)) Q.2.1.1 Q.2.1.2.1 Q.2.1.2.2.1 Q.2.1.2.2.2⟩ : QS) = τ := ⟨_, rfl⟩
         have t1 : τ.l = (Q.1.l.work 1).1 ∧ τ.a = Q.1.a ∧ τ.d = put4 Q.1.d (4 * (y * K.r.w + x)) Q.2.1.1 Q.2.1.2.1 Q.2.1.2.2.1 Q.2.1.2.2.2 ∧ QPos K fr (x + 1) τ := by
          rw [← hτ]; exact ⟨rfl, rfl, rfl, ⟨g3.a, g3.l, g3.n⟩⟩
         obtain ⟨t1, t2, t3, t4⟩ := t1
         have eP : K.putC Q.1 x y Q.2.1 = (τ, true) := by rw [u1, ← hτ]
         rw [eP, if_pos rfl]
         have td : τ.d.length = 4 * (h.W * h.H) := by rw [t3, put4_len, show Q.1.d = σ.d from pd]; exact hl
         have c2 : QCost K Q.1 (τ, ((0 : Int), (0 : Int))) 1 := ⟨by show τ.l.ok; rw [t1]; exact u3, ⟨1, by show LW Q.1.l τ.l 1; rw [t1]; exact u4, Nat.le_refl _⟩, by show τ.a ≤ _; rw [t2]; exact pc.a1, (fun hh => by rw [show (τ.l.br = false) by rw [t1]; exact u2] at hh; cases hh), by show τ.d.length = Q.1.d.length; rw [t3, put4_len]⟩
         have ih := row_sim hs fr y hy c (x + 1) τ (by omega) (by rw [t1]; exact u3) (by rw [t1]; exact u2) (by rw [t2]; exact pc.a1) td t4
         have eput : aY τ.d = putC (aY σ.d) (4 * (y * h.W + x)) cs := by
          rw [t3, show Q.1.d = σ.d from pd, hs.W, put4_putC _ _ _ _ _ _ (by rw [hl]; omega), ← g2]; rfl
         rw [eput] at ih
         exact ⟨((pc.trans hbr c2).trans (by rw [t1]; exact u2) ih.c).mono (by omega), ih.y⟩
       · rw [u1, if_neg (fun hh => by cases hh)]
         have c2 : QCost K Q.1 ((⟨Q.1.now, Q.1.left, Q.1.a, (Q.1.l.work 1).1, Q.1.d⟩ : QS), K.ft (Q.1.l.work 1).1 Q.1.a) 1 := ⟨u3, ⟨0, u4, by omega⟩, pc.a1, fun _ => by rw [u5]; have := pc.a1; exact ⟨rfl, by simp only; omega, by simp only at this ⊢; omega⟩, rfl⟩
         exact ⟨(pc.trans hbr c2).mono (by omega), fun hh => by rw [show ((⟨Q.1.now, Q.1.left, Q.1.a, (Q.1.l.work 1).1, Q.1.d⟩ : QS).l.br = true) from u2] at hh; cases hh⟩
theorem stride_le (W dp : Nat) : (W * dp + 7) / 8 ≤ aM W dp := by unfold aM; omega
theorem pad_sim {K : QK} {h : H21} {tb : List Value} {M : Nat} (hs : QSame K h tb M) (fr : Nat) (σ : QS) (ho : σ.l.ok) (hb : σ.l.br = false) (ha : σ.a ≤ K.x.e) (hp : QPos K fr h.W σ) :
 RowSim K σ (K.pad (aM h.W h.dp - (h.W * h.dp + 7) / 8) σ) 1 (if K.x.e < fr + aM h.W h.dp then .error (1, (K.x.e : Int)) else .ok (aY σ.d)) (fun τ => QPos K (fr + aM h.W h.dp) 0 τ ∧ τ.l.br = false) := by
 have hle := stride_le h.W h.dp
 have pa := hp.a
 rw [hs.dp] at pa
 rcases qnext_cost (σ := σ.whole) ho hb ha (aM h.W h.dp - (h.W * h.dp + 7) / 8) with ⟨n1, n2, n3, n4, n5⟩ | ⟨n1, n2, n3, n4, n5⟩
 · have e : K.pad (aM h.W h.dp - (h.W * h.dp + 7) / 8) σ = ((⟨σ.now, 0, σ.a + (aM h.W h.dp - (h.W * h.dp + 7) / 8), (σ.l.work 1).1, σ.d⟩ : QS), ((0 : Int), (0 : Int))) := by
    unfold QK.pad; rw [n1]; exact if_pos rfl
   have n3 : σ.a + (aM h.W h.dp - (h.W * h.dp + 7) / 8) ≤ K.x.e := n3
   have n2 : (σ.l.work 1).1.br = false := n2
   rw [e, if_neg (by omega)]
   refine ⟨⟨n4, ⟨1, n5, Nat.le_refl _⟩, n3, (fun hh => by rw [show ((⟨σ.now, 0, σ.a + (aM h.W h.dp - (h.W * h.dp + 7) / 8), (σ.l.work 1).1, σ.d⟩ : QS).l.br = false) from n2] at hh; cases hh), rfl⟩, fun _ => ⟨rfl, rfl, ⟨?_, ?_, fun hh => absurd (by rw [Nat.zero_mul]) hh⟩, n2⟩⟩
   · show σ.a + (aM h.W h.dp - (h.W * h.dp + 7) / 8) = _; rw [Nat.zero_mul]; omega
   · show 0 = _; rw [Nat.zero_mul]
 · have e : K.pad (aM h.W h.dp - (h.W * h.dp + 7) / 8) σ = ((⟨σ.now, 0, σ.a, (σ.l.work 1).1, σ.d⟩ : QS), K.ft (σ.l.work 1).1 σ.a) := by
    unfold QK.pad; rw [n1]; exact if_neg (fun hh => by cases hh)
   rw [e]
   refine ⟨⟨n2, n3, ha, fun hh => by have n4 := n4 hh; rw [show K.ft (σ.l.work 1).1 σ.a = (4, (σ.a : Int)) from n4]; exact ⟨rfl, by simp only; omega, by simp only; omega⟩, rfl⟩, fun hbr => ?_⟩
   obtain ⟨m1, m2⟩ := n5 hbr
   have m1 : K.x.e < σ.a + (aM h.W h.dp - (h.W * h.dp + 7) / 8) := m1
   rw [if_pos (by omega)]
   exact ⟨m2, by show (1 : Int) ≠ 0; decide⟩
theorem rows_sim {K : QK} {h : H21} {tb : List Value} {M : Nat} (hs : QSame K h tb M) (at_ : Nat) : ∀ (m k : Nat) (σ : QS), k + m = h.H → σ.l.ok → σ.l.br = false → σ.a ≤ K.x.e → σ.d.length = 4 * (h.W * h.H) → QPos K (at_ + k * aM h.W h.dp) 0 σ →
 RowSim K σ (K.rows h.W h.H h.top (aM h.W h.dp - (h.W * h.dp + 7) / 8) m k σ) (m * (2 * h.W + 1)) (rows21 h K.x.s tb M K.x.e at_ m k (aY σ.d)) (fun τ => QPos K (at_ + h.H * aM h.W h.dp) 0 τ)
 | 0, k, σ, hk, ho, hb, ha, hl, hp => by
   have hk : k = h.H := hk
   subst hk
   exact ⟨(QCost.stay ho hb ha _).mono (Nat.zero_le _), fun _ => ⟨rfl, rfl, hp⟩⟩
 | m + 1, k, σ, hk, ho, hb, ha, hl, hp => by
   have hyH : yOf h k < h.H := by unfold yOf; split <;> omega
   have hr := row_sim hs (at_ + k * aM h.W h.dp) (yOf h k) hyH h.W 0 σ (by omega) ho hb ha hl hp
   obtain ⟨Q, hQ⟩ : ∃ Q, K.row (yOf h k) h.W 0 σ = Q := ⟨_, rfl⟩
   rw [hQ] at hr
   obtain ⟨pc, py⟩ := hr
   have ek : K.rows h.W h.H h.top (aM h.W h.dp - (h.W * h.dp + 7) / 8) (m + 1) k σ = if Q.2.1 = 0 then (if (K.pad (aM h.W h.dp - (h.W * h.dp + 7) / 8) Q.1).2.1 = 0 then K.rows h.W h.H h.top (aM h.W h.dp - (h.W * h.dp + 7) / 8) m (k + 1) (K.pad (aM h.W h.dp - (h.W * h.dp + 7) / 8) Q.1).1 else K.pad (aM h.W h.dp - (h.W * h.dp + 7) / 8) Q.1) else Q := by
    rw [QK.rows, show rowY h.top h.H k = yOf h k from rfl, hQ]
   have er : rows21 h K.x.s tb M K.x.e at_ (m + 1) k (aY σ.d) = bindE (row21 h K.x.s tb M K.x.e (at_ + k * aM h.W h.dp) (yOf h k) h.W 0 (aY σ.d)) fun L' => if K.x.e < at_ + k * aM h.W h.dp + aM h.W h.dp then .error (1, (K.x.e : Int)) else rows21 h K.x.s tb M K.x.e at_ m (k + 1) L' := by rw [rows21]
   rw [ek, er]
   have hmul : (m + 1) * (2 * h.W + 1) = m * (2 * h.W + 1) + (2 * h.W + 1) := by rw [Nat.add_mul, Nat.one_mul]
   cases hbr : Q.1.l.br with
   | true =>
     have h4 := (pc.br hbr).1
     rw [if_neg (by rw [h4]; decide)]
     exact ⟨pc.mono (by omega), fun hh => by rw [hbr] at hh; cases hh⟩
   | false =>
     have hpy := py hbr
     cases hpe : row21 h K.x.s tb M K.x.e (at_ + k * aM h.W h.dp) (yOf h k) h.W 0 (aY σ.d) with
     | error z =>
       rw [hpe] at hpy
       obtain ⟨g1, g2⟩ := hpy
       rw [if_neg (by rw [g1]; exact g2)]
       exact ⟨pc.mono (by omega), fun _ => ⟨g1, g2⟩⟩
     | ok L =>
       rw [hpe] at hpy
       obtain ⟨g1, g2, g3⟩ := hpy
       rw [if_pos (by rw [g1])]
       have hd := pad_sim hs (at_ + k * aM h.W h.dp) Q.1 pc.ok hbr pc.a1 g3
       obtain ⟨V, hV⟩ : ∃ V, K.pad (aM h.W h.dp - (h.W * h.dp + 7) / 8) Q.1 = V := ⟨_, rfl⟩
       rw [hV] at hd ⊢
       obtain ⟨dc, dy⟩ := hd
       show RowSim K σ _ _ (if K.x.e < at_ + k * aM h.W h.dp + aM h.W h.dp then .error (1, (K.x.e : Int)) else rows21 h K.x.s tb M K.x.e at_ m (k + 1) L) _
       have dc2 : QCost K σ V (2 * h.W + 1) := by
        have := pc.trans (t := Q.2) hbr dc
        exact this
       cases hvb : V.1.l.br with
       | true =>
         have h4 := (dc.br hvb).1
         rw [if_neg (by rw [h4]; decide)]
         exact ⟨dc2.mono (by omega), fun hh => by rw [hvb] at hh; cases hh⟩
       | false =>
         have hdy := dy hvb
         by_cases hte : K.x.e < at_ + k * aM h.W h.dp + aM h.W h.dp
         · rw [if_pos hte] at hdy ⊢
           obtain ⟨v1, v2⟩ := hdy
           rw [if_neg (by rw [v1]; exact v2)]
           exact ⟨dc2.mono (by omega), fun _ => ⟨v1, v2⟩⟩
         · rw [if_neg hte] at hdy ⊢
           obtain ⟨v1, v2, v3, v4⟩ := hdy
           rw [if_pos (by rw [v1])]
           have hlen : V.1.d.length = 4 * (h.W * h.H) := by rw [dc2.len]; exact hl
           have ih := rows_sim hs at_ m (k + 1) V.1 (by omega) dc2.ok hvb dc2.a1 hlen (by rw [show (k + 1) * aM h.W h.dp = k * aM h.W h.dp + aM h.W h.dp by rw [Nat.add_mul, Nat.one_mul], ← Nat.add_assoc]; exact v3)
           rw [v2, g2] at ih
           exact ⟨(QCost.trans (t := V.2) dc2 hvb ih.c).mono (by omega), ih.y⟩
def Table16Post (w : World) (X : Nat) (x : Sr) (l : Led) (n f : Int) (e : Ending) (w' : World) : Prop :=
 (if (x.next l n).2.2 = true then e = .returned (.tuple #[Y none, .agg (List.toArray [J I 0, J I 0, J I 0])]) else e = .returned (.tuple #[Y none, .agg (aK (x.next l n).1.1 (x.next l n).1.2 f).toArray])) ∧ Pair w' X (x.next l n).1.1 (x.next l n).1.2 ∧ Chg (two X x) w w'
theorem table16_any (sz W H : Int) (top : Bool) (dp mt : Int) (co : Nat) (k0 k1 k2 k3 k4 k5 k6 k7 fr : Int) (X : Nat) (x : Sr) (l : Led) (f : Int) (w : World) (h : Pair w X x l) (hdp : 8 < dp) (hco2 : co ≤ 65536) :
 Calls Tryz.prog 83 #[Y (some ⟨X, 0, none⟩), .agg (List.toArray [J I sz, J I W, J I H, .bool top, J I dp, J I mt, J I co, J I k0, J I k1, J I k2, J I k3, J I k4, J I k5, J I k6, J I k7, J I fr]), J I f] w (Table16Post w X x l ((if sz = 12 then 3 else 4) * (co : Int)) f) := by
 obtain ⟨d, hd⟩ : ∃ d, w.heap.size = d := ⟨_, rfl⟩
 have HDe := Hi hd
 have hXd := h.src.lt
 have hLd := h.led.lt
 have hXL := h.src.ne
 rw [hd] at hXd hLd
 have HEN := Hi (fun w0 => hentry_any sz W H top dp mt co k0 k1 k2 k3 k4 k5 k6 k7 fr w0)
 have OH := Hi ((aA w (List.toArray [J I sz, J I W, J I H, .bool top, J I dp, J I mt, J I co, J I k0, J I k1, J I k2, J I k3, J I k4, J I k5, J I k6, J I k7, J I fr]) 63).alloc (.cells #[J I 0, J I 0, J I 0] 31))
 have OF := Hi (aA (w.alloc (.cells (List.toArray [J I sz, J I W, J I H, .bool top, J I dp, J I mt, J I co, J I k0, J I k1, J I k2, J I k3, J I k4, J I k5, J I k6, J I k7, J I fr]) 63)) #[J I 0, J I 0, J I 0] 31)
 rw [show (w.alloc (.cells (List.toArray [J I sz, J I W, J I H, .bool top, J I dp, J I mt, J I co, J I k0, J I k1, J I k2, J I k3, J I k4, J I k5, J I k6, J I k7, J I fr]) 63)).heap.size = d + 1 by rw [← hd]; simp] at OF
 rw [hd] at OH
 have hC := ((Chg.refl (two X x) w).alloc (.cells (List.toArray [J I sz, J I W, J I H, .bool top, J I dp, J I mt, J I co, J I k0, J I k1, J I k2, J I k3, J I k4, J I k5, J I k6, J I k7, J I fr]) 63)).alloc (.cells #[J I 0, J I 0, J I 0] 31)
 have CH := Hi hC
 have HPR := Hi ((h.alloc (.cells (List.toArray [J I sz, J I W, J I H, .bool top, J I dp, J I mt, J I co, J I k0, J I k1, J I k2, J I k3, J I k4, J I k5, J I k6, J I k7, J I fr]) 63)).alloc (.cells #[J I 0, J I 0, J I 0] 31))
 clear h hC
 have hnb : (x.next l ((if sz = 12 then 3 else 4) * (co : Int))).1.1.L = x.L := nextL_8 _ _ _
 by_cases hs : sz = 12
 · have HEN := Hi (fun w0 => (HEN.out w0).mono (R' := fun e w' => e = .returned (J I 3) ∧ Below w0.heap.size w0 w') fun e w' hh => by rw [if_pos hs] at hh; exact hh)
   rw [if_pos hs] at hnb ⊢
   clear hs
   have HSK := Hi (fun w0 (h0 : Pair w0 X x l) => skip_any X x l (3 * (co : Int)) w0 h0)
   unfold Table16Post
   unfold BoolPost at HSK
   obtain ⟨⟨⟨y, m⟩, sx, B⟩, hr⟩ : ∃ r, x.next l (3 * (co : Int)) = r := ⟨_, rfl⟩
   rw [hr] at HSK hnb ⊢
   have hyL : y.L = x.L := hnb
   clear hr hnb
   simp only at HSK ⊢
   go_enter Tryz.func83, Tryz.ntmps83
   go_upto_region 1 with (fail)
   clear hd
   generalize World.alloc _ _ = wr at OH OF CH HPR ⊢
   have c4 := (OH.out.cell 4).trans (show _ = some (J I dp) from rfl)
   go_upto_region 2 with (fail)
   clear c4
   have ld := OH.out.lt
   have lds := OF.out.lt
   refine wp_region_noPanic ?_
   refine wp_region_held_drew (S := fun w' => Chg (two X x) wr w') (by kernel_rfl) (Chg.refl _ _).drew (fun hHeld => ?_)
   refine za 0 (Y (some ⟨X, 0, none⟩)) rfl hHeld ?_
   refine zl 1 63 (d) (0) ([J I sz, J I W, J I H, .bool top, J I dp, J I mt, J I co, J I k0, J I k1, J I k2, J I k3, J I k4, J I k5, J I k6, J I k7, J I fr]) rfl (fun w hS => range_chgU OH.out.range0 hS (by omega) (show ¬ (d = X ∨ d = x.L) by omega)) Tryz.underlying63 hHeld ?_
   refine za 3 (Y (some ⟨d, 6, none⟩)) rfl hHeld ?_
   refine zt 4 (J I (co : Int)) rfl hHeld ?_ (hy := fun w hS => by (have hc : w.cell? ⟨d, 6, none⟩ = some (J I (co : Int)) := (hS.cell (b := d) (o := 6) (by omega) (show ¬ (d = X ∨ d = x.L) by omega)).trans ((OH.out.cell 6).trans rfl); go_simp))
   have hS := (Chg.refl (two X x) wr).drew
   have hF := (Chg.refl (fun _ => False) wr).drew
   generalize World.drew _ = wk at hS hF ⊢
   refine wpAnyH_ready (rs := [2]) (by kernel_rfl) (by simp) ?_
   refine AllReadyH.cons (o := _) rfl (fun K' hK => ?_) AllReadyH.nil
   go_simp
   with_reducible refine (HEN.out _).mono ?_
   rintro e5 w5 ⟨rfl, hb5⟩
   have hS := hS.trans (aB hb5 _)
   have hF := hF.trans (aB hb5 _)
   go_wp2_with fail
   refine hK _ _ hS (fun hH1 => ?_)
   clear hK K'
   try simp only [Act.put, zq1, zq2, zq3, zq4, zq5, zq6]
   refine zt 5 (J I (3 * (co : Int))) rfl hH1 ?_ (hy := fun w hS => by (go_simp; rw [IntKind.wrap_i64]; omega))
   refine wpAnyH_ready (rs := [6]) (by kernel_rfl) (by simp) ?_
   refine AllReadyH.cons (o := _) rfl (fun K' hK => ?_) AllReadyH.nil
   go_simp
   with_reducible refine (HSK.out _ ⟨HPR.out.src.chg hF (fun h => h), HPR.out.led.chg hF (fun h => h)⟩).mono ?_
   rintro e6 w6 ⟨rfl, hP6, hC6⟩
   have hS2 := hS.trans hC6
   go_wp2_with fail
   refine hK _ _ hS2 (fun hH2 => ?_)
   clear hK K'
   try simp only [Act.put, zq1, zq2, zq3, zq4, zq5, zq6]
   refine zt 7 (.bool (!B)) rfl hH2 ?_
   refine wpAnyH_done (by kernel_rfl) ?_ _
   refine NoPanic.normal ?_
   have HP1 := Hi hP6
   have OF := Hi (hS2.obj OF.out (show ¬ (d + 1 = X ∨ d + 1 = x.L) by omega))
   have CH := Hi (CH.out.trans hS2)
   clear hS hF hS2 hC6 hP6
   cases B with
   | true =>
     go_wp2_with (first
      | (refine so 31 3 (d + 1) [J I 0, J I 0, J I 0] OF.out ?_; intro ws hst hO; have OF := Hi hO; have HP1 := Hi (HP1.out.into hst (by omega) (by rw [hyL]; omega)); have CH := Hi (Stored.chgS hst CH.out (Or.inr (by have := HDe.out; omega))); clear hst hO))
     refine bodyPost_ret (v := .tuple #[Y none, .agg (List.toArray [J I 0, J I 0, J I 0])]) ?_ rfl ?_
     · exact aa Tryz.results83 _ _ _ [J I 0, J I 0, J I 0] _ rfl OF.out.range0 Tryz.underlying31 rfl (by kernel_rfl)
     · exact ⟨rfl, HP1.out, CH.out⟩
   | false =>
     have HFT := Hi (fun w0 (h0 : Pair w0 X (y) (m)) => fault8_any X (y) (m) f w0 h0)
     go_wp2_with (first
      | ((go_at_call 37; (with_reducible refine (HFT.out _ HP1.out).mono ?_); rintro e w9 ⟨rfl, hb⟩); have OF := Hi (OF.out.below hb OF.out.lt); have CH := Hi (CH.out.trans (aB hb _)); have HP1 := Hi (HP1.out.upon hb HP1.out.src.lt HP1.out.led.lt); clear hb)
      | (refine store_o rfl 31 3 _ _ rfl (d + 1) (aK (y) (m) f) (aV _ _ _) (faultL_one _ _ _) (by kernel_rfl) (by kernel_rfl) (by kernel_rfl) OF.out (by first | rfl | simp) ?_; intro ws hst hO; have OF := Hi hO; have HP1 := Hi (HP1.out.into hst (by omega) (by rw [hyL]; omega)); have CH := Hi (Stored.chgS hst CH.out (Or.inr (by have := HDe.out; omega))); clear hst hO))
     refine bodyPost_ret (v := .tuple #[Y none, .agg (aK (y) (m) f).toArray]) ?_ rfl ?_
     · exact aa Tryz.results83 _ _ _ (aK (y) (m) f) _ rfl OF.out.range0 Tryz.underlying31 rfl (by rw [aV]; kernel_rfl)
     · exact ⟨rfl, HP1.out, CH.out⟩
 · have HEN := Hi (fun w0 => (HEN.out w0).mono (R' := fun e w' => e = .returned (J I 4) ∧ Below w0.heap.size w0 w') fun e w' hh => by rw [if_neg hs] at hh; exact hh)
   rw [if_neg hs] at hnb ⊢
   clear hs
   have HSK := Hi (fun w0 (h0 : Pair w0 X x l) => skip_any X x l (4 * (co : Int)) w0 h0)
   unfold Table16Post
   unfold BoolPost at HSK
   obtain ⟨⟨⟨y, m⟩, sx, B⟩, hr⟩ : ∃ r, x.next l (4 * (co : Int)) = r := ⟨_, rfl⟩
   rw [hr] at HSK hnb ⊢
   have hyL : y.L = x.L := hnb
   clear hr hnb
   simp only at HSK ⊢
   go_enter Tryz.func83, Tryz.ntmps83
   go_upto_region 1 with (fail)
   clear hd
   generalize World.alloc _ _ = wr at OH OF CH HPR ⊢
   have c4 := (OH.out.cell 4).trans (show _ = some (J I dp) from rfl)
   go_upto_region 2 with (fail)
   clear c4
   have ld := OH.out.lt
   have lds := OF.out.lt
   refine wp_region_noPanic ?_
   refine wp_region_held_drew (S := fun w' => Chg (two X x) wr w') (by kernel_rfl) (Chg.refl _ _).drew (fun hHeld => ?_)
   refine za 0 (Y (some ⟨X, 0, none⟩)) rfl hHeld ?_
   refine zl 1 63 (d) (0) ([J I sz, J I W, J I H, .bool top, J I dp, J I mt, J I co, J I k0, J I k1, J I k2, J I k3, J I k4, J I k5, J I k6, J I k7, J I fr]) rfl (fun w hS => range_chgU OH.out.range0 hS (by omega) (show ¬ (d = X ∨ d = x.L) by omega)) Tryz.underlying63 hHeld ?_
   refine za 3 (Y (some ⟨d, 6, none⟩)) rfl hHeld ?_
   refine zt 4 (J I (co : Int)) rfl hHeld ?_ (hy := fun w hS => by (have hc : w.cell? ⟨d, 6, none⟩ = some (J I (co : Int)) := (hS.cell (b := d) (o := 6) (by omega) (show ¬ (d = X ∨ d = x.L) by omega)).trans ((OH.out.cell 6).trans rfl); go_simp))
   have hS := (Chg.refl (two X x) wr).drew
   have hF := (Chg.refl (fun _ => False) wr).drew
   generalize World.drew _ = wk at hS hF ⊢
   refine wpAnyH_ready (rs := [2]) (by kernel_rfl) (by simp) ?_
   refine AllReadyH.cons (o := _) rfl (fun K' hK => ?_) AllReadyH.nil
   go_simp
   with_reducible refine (HEN.out _).mono ?_
   rintro e5 w5 ⟨rfl, hb5⟩
   have hS := hS.trans (aB hb5 _)
   have hF := hF.trans (aB hb5 _)
   go_wp2_with fail
   refine hK _ _ hS (fun hH1 => ?_)
   clear hK K'
   try simp only [Act.put, zq1, zq2, zq3, zq4, zq5, zq6]
   refine zt 5 (J I (4 * (co : Int))) rfl hH1 ?_ (hy := fun w hS => by (go_simp; rw [IntKind.wrap_i64]; omega))
   refine wpAnyH_ready (rs := [6]) (by kernel_rfl) (by simp) ?_
   refine AllReadyH.cons (o := _) rfl (fun K' hK => ?_) AllReadyH.nil
   go_simp
   with_reducible refine (HSK.out _ ⟨HPR.out.src.chg hF (fun h => h), HPR.out.led.chg hF (fun h => h)⟩).mono ?_
   rintro e6 w6 ⟨rfl, hP6, hC6⟩
   have hS2 := hS.trans hC6
   go_wp2_with fail
   refine hK _ _ hS2 (fun hH2 => ?_)
   clear hK K'
   try simp only [Act.put, zq1, zq2, zq3, zq4, zq5, zq6]
   refine zt 7 (.bool (!B)) rfl hH2 ?_
   refine wpAnyH_done (by kernel_rfl) ?_ _
   refine NoPanic.normal ?_
   have HP1 := Hi hP6
   have OF := Hi (hS2.obj OF.out (show ¬ (d + 1 = X ∨ d + 1 = x.L) by omega))
   have CH := Hi (CH.out.trans hS2)
   clear hS hF hS2 hC6 hP6
   cases B with
   | true =>
     go_wp2_with (first
      | (refine so 31 3 (d + 1) [J I 0, J I 0, J I 0] OF.out ?_; intro ws hst hO; have OF := Hi hO; have HP1 := Hi (HP1.out.into hst (by omega) (by rw [hyL]; omega)); have CH := Hi (Stored.chgS hst CH.out (Or.inr (by have := HDe.out; omega))); clear hst hO))
     refine bodyPost_ret (v := .tuple #[Y none, .agg (List.toArray [J I 0, J I 0, J I 0])]) ?_ rfl ?_
     · exact aa Tryz.results83 _ _ _ [J I 0, J I 0, J I 0] _ rfl OF.out.range0 Tryz.underlying31 rfl (by kernel_rfl)
     · exact ⟨rfl, HP1.out, CH.out⟩
   | false =>
     have HFT := Hi (fun w0 (h0 : Pair w0 X (y) (m)) => fault8_any X (y) (m) f w0 h0)
     go_wp2_with (first
      | ((go_at_call 37; (with_reducible refine (HFT.out _ HP1.out).mono ?_); rintro e w9 ⟨rfl, hb⟩); have OF := Hi (OF.out.below hb OF.out.lt); have CH := Hi (CH.out.trans (aB hb _)); have HP1 := Hi (HP1.out.upon hb HP1.out.src.lt HP1.out.led.lt); clear hb)
      | (refine store_o rfl 31 3 _ _ rfl (d + 1) (aK (y) (m) f) (aV _ _ _) (faultL_one _ _ _) (by kernel_rfl) (by kernel_rfl) (by kernel_rfl) OF.out (by first | rfl | simp) ?_; intro ws hst hO; have OF := Hi hO; have HP1 := Hi (HP1.out.into hst (by omega) (by rw [hyL]; omega)); have CH := Hi (Stored.chgS hst CH.out (Or.inr (by have := HDe.out; omega))); clear hst hO))
     refine bodyPost_ret (v := .tuple #[Y none, .agg (aK (y) (m) f).toArray]) ?_ rfl ?_
     · exact aa Tryz.results83 _ _ _ (aK (y) (m) f) _ rfl OF.out.range0 Tryz.underlying31 rfl (by rw [aV]; kernel_rfl)
     · exact ⟨rfl, HP1.out, CH.out⟩
theorem LW.br_iff {l l' : Led} {k : Nat} (h : LW l l' k) (hb : l.br = false) : (l'.br = false ∧ l' = { l with st := l.st + k }) ∨ (l'.br = true ∧ l' = ({ l with st := l.st + k } : Led).refuse 3 1 ∧ l.st + k = l.mx) := by
 rcases h with h | ⟨h, h'⟩
 · left; subst h; exact ⟨hb, rfl⟩
 · right; subst h; exact ⟨rfl, rfl, h'⟩
theorem LW.calm {l l' : Led} {k : Nat} (h : LW l l' k) (hk : l.st + k < l.mx) : l' = { l with st := l.st + k } := by
 rcases h with h | ⟨h, h'⟩
 · exact h
 · omega
theorem LW.fields {l l' : Led} {k : Nat} (h : LW l l' k) : l'.mw = l.mw ∧ l'.mh = l.mh ∧ l'.mb = l.mb ∧ l'.mx = l.mx ∧ l'.bt = l.bt ∧ l'.pk = l.pk ∧ l'.st = l.st + k := by
 rcases h with h | ⟨h, h'⟩ <;> subst h <;> exact ⟨rfl, rfl, rfl, rfl, rfl, rfl, rfl⟩
theorem LW.more {l l1 : Led} {k : Nat} (h : LW l l1 k) (hb : l.br = false) (ho : l1.ok) : (l1.work 1).1.ok ∧ ∃ j, j ≤ k + 1 ∧ LW l (l1.work 1).1 j := by
 refine ⟨Led.work_ok ho 1, ?_⟩
 rcases h.br_iff hb with ⟨h1, h2⟩ | ⟨h1, h2, h3⟩
 · rcases LW.one h1 ho with ⟨a, b, c⟩ | ⟨a, b, c⟩
   · exact ⟨k + 1, Nat.le_refl _, h.trans h1 b⟩
   · exact ⟨k, by omega, by have := h.trans h1 b; exact this⟩
 · have : l1.work 1 = (l1, false) := by unfold Led.work; rw [if_pos h1]
   rw [this]; exact ⟨k, by omega, h⟩
structure Rd (x : Sr) (l : Led) (q : Sr × Led) (j : Nat) : Prop where
 L : q.1.L = x.L
 s : q.1.s = x.s
 b : q.1.b = x.b
 e : q.1.e = x.e
 ok : q.1.ok
 lo : q.2.ok
 p : x.p ≤ q.1.p
 lw : ∃ k, k ≤ j ∧ LW l q.2 k
theorem Rd.refl {x : Sr} {l : Led} (hx : x.ok) (hl : l.ok) : Rd x l (x, l) 0 := ⟨rfl, rfl, rfl, rfl, hx, hl, Nat.le_refl _, 0, Nat.le_refl _, LW.refl _⟩
theorem Rd.mono {x : Sr} {l : Led} {q : Sr × Led} {j j' : Nat} (h : Rd x l q j) (hj : j ≤ j') : Rd x l q j' := by
 obtain ⟨k, hk, hl⟩ := h.lw
 exact ⟨h.L, h.s, h.b, h.e, h.ok, h.lo, h.p, k, by omega, hl⟩
theorem Rd.next {x : Sr} {l : Led} {q : Sr × Led} {j : Nat} (h : Rd x l q j) (hb : l.br = false) (n : Int) : Rd x l (q.1.next q.2 n).1 (j + 1) := by
 obtain ⟨k, hk, hl⟩ := h.lw
 obtain ⟨g1, i, hi, hli⟩ := hl.more hb h.lo
 have hbp := h.ok.bp
 have hpe := h.ok.pe
 have hp := h.p
 unfold Sr.next
 by_cases hc : (q.2.work 1).2 = true ∧ 0 ≤ n ∧ n ≤ (q.1.e : Int) - q.1.p
 · rw [if_pos hc]
   obtain ⟨c1, c2, c3⟩ := hc
   exact ⟨h.L, h.s, h.b, h.e, ⟨by show q.1.b ≤ q.1.p + n.toNat; omega, by show q.1.p + n.toNat ≤ q.1.e; omega, h.ok.es, h.ok.sz⟩, g1, by show x.p ≤ q.1.p + n.toNat; omega, i, by omega, hli⟩
 · rw [if_neg hc]
   exact ⟨h.L, h.s, h.b, h.e, h.ok, g1, hp, i, by omega, hli⟩
theorem hRun_rd {x : Sr} {l : Led} {y : Sr} {m : Led} {j : Nat} (h : Rd x l (y, m) j) (hb : l.br = false) (f : Int) (b : ByteArray) (H : Hd) (F : Fnd × Bool) : Rd x l (hRun x l f b y m H F).2 (j + 1) := by
 have h1 := h.mono (Nat.le_succ j)
 have h2 := h.next hb 12
 unfold hRun
 by_cases e1 : F.2 = true
 · rw [if_pos e1]; exact h1
 rw [if_neg e1]
 by_cases e2 : (H.mt == 3) = true
 · rw [if_pos e2]
   by_cases e3 : (H.sz == 40) = true
   · rw [if_pos e3]
     by_cases e4 : (y.next m 12).2.2 = true
     · rw [if_pos e4]; exact h2
     · rw [if_neg e4]; exact h2
   · rw [if_neg e3]; exact h1
 · rw [if_neg e2]; exact h1
theorem tkRes_rd {x : Sr} {l : Led} (hx : x.ok) (hl : l.ok) (hb : l.br = false) (f : Int) : Rd x l (ac x l f).2 2 := by
 have h1 := (Rd.refl hx hl).next hb 4
 have h2 := h1.next hb (aC (x.next l 4).2.1 0 4 - 4)
 have h1' := h1.mono (Nat.le_succ 1)
 unfold ac
 by_cases e1 : (x.next l 4).2.2 = false
 · rw [if_pos e1]; exact h1'
 rw [if_neg e1]
 by_cases e2 : aU (aC (x.next l 4).2.1 0 4) = false
 · rw [if_pos e2]; exact h1'
 rw [if_neg e2]
 by_cases e3 : ((x.next l 4).1.1.next (x.next l 4).1.2 (aC (x.next l 4).2.1 0 4 - 4)).2.2 = false
 · rw [if_pos e3]; exact h2
 · rw [if_neg e3]; exact h2
theorem hRead_rd {x : Sr} {l : Led} (hx : x.ok) (hl : l.ok) (hb : l.br = false) (f : Int) : Rd x l (aJ x l f).2 3 := by
 have h := tkRes_rd hx hl hb f
 unfold aJ
 by_cases e : tkOk x l = false
 · rw [if_pos e]; exact h.mono (Nat.le_succ 2)
 · rw [if_neg e]; exact hRun_rd h hb _ _ _ _
/-! ### a table -/
def Pal.b4 (p : Pal) (i : Nat) : List Int := (p.b.d.drop (4 * i)).take 4
theorem add_len (p : Pal) (c : List Int) (hc : c.length = 4) (hl : p.b.d.length = 4 * p.most) (hn : p.n < p.most) : (p.add c).b.d.length = 4 * p.most := by
 show (p.b.d.take (4 * p.n) ++ (c ++ p.b.d.drop (4 * p.n + 4))).length = _
 rw [List.length_append, List.length_append, List.length_take, List.length_drop, hc, hl]; omega
theorem add_b4 (p : Pal) (c : List Int) (hc : c.length = 4) (hl : p.b.d.length = 4 * p.most) (hn : p.n < p.most) : (p.add c).b4 p.n = c ∧ ∀ i, i < p.n → (p.add c).b4 i = p.b4 i := by
 have ht : (p.b.d.take (4 * p.n)).length = 4 * p.n := by rw [List.length_take, hl]; omega
 refine ⟨?_, fun i hi => ?_⟩
 · show ((p.b.d.take (4 * p.n) ++ (c ++ p.b.d.drop (4 * p.n + 4))).drop (4 * p.n)).take 4 = c
   rw [List.drop_append_of_le_length (by omega), List.drop_of_length_le (by omega), List.nil_append, List.take_append_of_le_length (by omega), List.take_of_length_le (by omega)]
 · show ((p.b.d.take (4 * p.n) ++ (c ++ p.b.d.drop (4 * p.n + 4))).drop (4 * i)).take 4 = (p.b.d.drop (4 * i)).take 4
   rw [List.drop_append_of_le_length (by omega), List.take_append_of_le_length (by rw [List.length_drop]; omega), List.drop_take, List.take_take, Nat.min_eq_left (by omega)]
structure PalRun (sz : Nat) (p : Pal) (x : Sr) (l : Led) (n : Nat) (q : (Pal × (Sr × Led)) × Bool) : Prop where
 rd : Rd x l q.1.2 n
 B : q.1.1.B = p.B
 g : q.1.1.b.g = p.b.g
 bL : q.1.1.b.L = p.b.L
 op : q.1.1.b.op = p.b.op
 most : q.1.1.most = p.most
 len : q.1.1.b.d.length = 4 * p.most
 yes : q.2 = true → x.p + sz * n ≤ x.e ∧ q.1.2.1 = { x with p := x.p + sz * n } ∧ q.1.2.2 = { l with st := l.st + n } ∧ q.1.1.n = p.n + n ∧ (∀ i, i < p.n → q.1.1.b4 i = p.b4 i) ∧ ∀ j, j < n → q.1.1.b4 (p.n + j) = col3 (x.s.extract (x.p + sz * j) (x.p + sz * j + sz))
 no : q.2 = false → (q.1.2.2.br = false → x.e < x.p + sz * n) ∧ (x.p + sz * n ≤ x.e → q.1.2.2.br = true)
theorem palR_run (sz : Nat) (hsz : sz = 3 ∨ sz = 4) : ∀ (n : Nat) (p : Pal) (x : Sr) (l : Led), x.ok → l.ok → l.br = false → p.b.d.length = 4 * p.most → p.n + n ≤ p.most → PalRun sz p x l n (palR sz p x l n)
 | 0, p, x, l, hx, hl, hb, hlen, hn => by
   refine ⟨Rd.refl hx hl, rfl, rfl, rfl, rfl, rfl, hlen, fun _ => ⟨by have := hx.pe; omega, ?_, ?_, rfl, fun _ _ => rfl, fun j hj => by omega⟩, fun h => by cases h⟩
   · show x = { x with p := x.p + sz * 0 }; simp
   · show l = { l with st := l.st + (0 : Nat) }; simp
 | n + 1, p, x, l, hx, hl, hb, hlen, hn => by
   have hs0 : (0 : Int) ≤ sz := by omega
   have hr := (Rd.refl hx hl).next hb sz
   have hmul : sz * (n + 1) = sz * n + sz := Nat.mul_succ sz n
   rw [palR]
   by_cases hk : (x.next l sz).2.2 = false
   · rw [if_pos hk]
     refine ⟨hr.mono (by omega), rfl, rfl, rfl, rfl, rfl, hlen, (fun h => by cases h), fun _ => ⟨fun hbr => ?_, fun hin => ?_⟩⟩
     · unfold Sr.next at hk hbr
       rcases LW.one hb hl with ⟨a, b, c⟩ | ⟨a, b, c⟩
       · by_cases hc : (l.work 1).2 = true ∧ 0 ≤ (sz : Int) ∧ (sz : Int) ≤ (x.e : Int) - x.p
         · rw [if_pos hc] at hk; cases hk
         · have h3 : ¬ ((sz : Int) ≤ (x.e : Int) - x.p) := fun hh => hc ⟨a, hs0, hh⟩
           omega
       · by_cases hc : (l.work 1).2 = true ∧ 0 ≤ (sz : Int) ∧ (sz : Int) ≤ (x.e : Int) - x.p
         · rw [a] at hc; cases hc.1
         · rw [if_neg hc] at hbr
           have : (l.work 1).1.br = false := hbr
           rw [c] at this; cases this
     · unfold Sr.next at hk ⊢
       rcases LW.one hb hl with ⟨a, b, c⟩ | ⟨a, b, c⟩
       · rw [if_pos ⟨a, hs0, by omega⟩] at hk; cases hk
       · rw [if_neg (fun hc => by rw [a] at hc; cases hc.1)]; exact c
   · rw [if_neg hk]
     have hnx : (x.next l sz) = (({ x with p := x.p + sz }, { l with st := l.st + 1 }), (x.s.extract x.p (x.p + sz), true)) ∧ x.p + sz ≤ x.e := by
      unfold Sr.next at hk ⊢
      by_cases hc : (l.work 1).2 = true ∧ 0 ≤ (sz : Int) ∧ (sz : Int) ≤ (x.e : Int) - x.p
      · rw [if_pos hc]
        rcases LW.one hb hl with ⟨a, b, c⟩ | ⟨a, b, c⟩
        · have hw : (l.work 1).1 = { l with st := l.st + 1 } := by
           rcases b.br_iff hb with ⟨d1, d2⟩ | ⟨d1, d2, d3⟩
           · exact d2
           · rw [c] at d1; cases d1
          rw [hw, Int.toNat_natCast]
          exact ⟨rfl, by have := hc.2.2; have := hx.pe; omega⟩
        · rw [a] at hc; cases hc.1
      · rw [if_neg hc] at hk; exact absurd rfl hk
     obtain ⟨hnx, hin⟩ := hnx
     rw [hnx] at hr ⊢
     have h1l : ({ l with st := l.st + 1 } : Led).ok := hr.lo
     obtain ⟨g1, g2, g3, g4, g5, g6, g7, g8, g9⟩ := palR_run sz hsz n (p.add (col3 (x.s.extract x.p (x.p + sz)))) { x with p := x.p + sz } { l with st := l.st + 1 } hr.ok h1l hb
      (add_len p _ rfl hlen (by omega)) (by show p.n + 1 + n ≤ p.most; omega)
     obtain ⟨a1, a2⟩ := add_b4 p (col3 (x.s.extract x.p (x.p + sz))) rfl hlen (by omega)
     have hrd : Rd x l (palR sz (p.add (col3 (x.s.extract x.p (x.p + sz)))) { x with p := x.p + sz } { l with st := l.st + 1 } n).1.2 (n + 1) := by
      obtain ⟨k, hk, hlw⟩ := g1.lw
      exact ⟨g1.L, g1.s, g1.b, g1.e, g1.ok, g1.lo, by have := g1.p; have : x.p + sz ≤ _ := this; omega, 1 + k, by omega, LW.trans (l1 := { l with st := l.st + 1 }) (Or.inl rfl) hb hlw⟩
     refine ⟨hrd, g2, g3, g4, g5, g6, g7, fun hy => ?_, fun hy => ⟨fun hbr => ?_, fun hin2 => ?_⟩⟩
     · obtain ⟨y1, y2, y3, y4, y5, y6⟩ := g8 hy
       have y1 : x.p + sz + sz * n ≤ x.e := y1
       refine ⟨by omega, ?_, ?_, ?_, fun i hi => ?_, fun j hj => ?_⟩
       · rw [y2]; show ({ x with p := x.p + sz + sz * n } : Sr) = { x with p := x.p + sz * (n + 1) }
         rw [show x.p + sz + sz * n = x.p + sz * (n + 1) by omega]
       · rw [y3]
         show ({ l with st := l.st + 1 + (n : Int) } : Led) = { l with st := l.st + ((n + 1 : Nat) : Int) }
         rw [show l.st + 1 + (n : Int) = l.st + ((n + 1 : Nat) : Int) by omega]
       · rw [y4]; show p.n + 1 + n = _; omega
       · rw [y5 i (by show i < p.n + 1; omega)]; exact a2 i hi
       · by_cases h0 : j = 0
         · subst h0
           rw [Nat.add_zero, y5 p.n (by show p.n < p.n + 1; omega), a1]; rfl
         · obtain ⟨j', rfl⟩ : ∃ j', j = j' + 1 := ⟨j - 1, by omega⟩
           have := y6 j' (by omega)
           have e1 : (p.add (col3 (x.s.extract x.p (x.p + sz)))).n + j' = p.n + (j' + 1) := by show p.n + 1 + j' = _; omega
           have hmj : sz * (j' + 1) = sz * j' + sz := Nat.mul_succ sz j'
           rw [e1] at this
           rw [this]
           show col3 (x.s.extract (x.p + sz + sz * j') (x.p + sz + sz * j' + sz)) = _
           rw [show x.p + sz + sz * j' = x.p + sz * (j' + 1) by omega]
     · have := (g9 hy).1 hbr
       have : x.e < x.p + sz + sz * n := this
       omega
     · exact (g9 hy).2 (by show x.p + sz + sz * n ≤ x.e; omega)
structure Hd.more (a : Hd) : Prop where
 h1 : 1 ≤ a.h
 h2 : a.h ≤ 16384
 m0 : 0 ≤ a.mt ∧ a.mt ≤ 3
 m1 : a.mt = 1 → a.dp = 8 ∧ a.top = false
 m2 : a.mt = 2 → a.dp = 4 ∧ a.top = false
 m3 : a.mt = 3 → a.dp = 16 ∨ a.dp = 32
 c0 : 0 ≤ a.co ∧ a.co ≤ 256
 c1 : a.dp ≤ 8 → 1 ≤ a.co ∧ a.co ≤ 2 ^ a.dp.toNat
theorem hd_more (b : ByteArray) (hd : aU b.size = true) (h : (aO (fdOf b)).2 = false) : (ao b).more := by
 have hn := firstW_no h
 by_cases h12 : b.size = 12
 · have e1 : fdOf b = smallF b := by unfold fdOf; rw [if_pos h12]
   have e2 : ao b = smallH b := by unfold ao; rw [if_pos h12]
   rw [e1] at hn
   rw [e2]
   unfold smallF sidesF at hn
   have a3 := hn (aC b 6 2 == 0, 2, 6) (by simp)
   have a4 := hn (decide (aC b 6 2 > 16384) || decide (aC b 6 2 < -16384), 3, 6) (by simp)
   have a6 := hn (!dpB (aC b 10 2) false, 3, 10) (by simp)
   have d := dpB_no (show dpB (aC b 10 2) false = true by simpa using a6)
   simp only [beq_eq_false_iff_ne, Bool.or_eq_false_iff, decide_eq_false_iff_not] at a3 a4
   have hb := ah b 6 2
   obtain ⟨dp, hdp⟩ : ∃ dp, aC b 10 2 = dp := ⟨_, rfl⟩
   have e3 : smallH b = ⟨12, aC b 4 2, aC b 6 2, false, dp, 0, if dp ≤ 8 then 2 ^ dp.toNat else 0, z8, 0⟩ := by unfold smallH; rw [hdp]
   rw [hdp] at d
   rw [e3]
   refine ⟨by show 1 ≤ aC b 6 2; omega, by show aC b 6 2 ≤ 16384; omega, by show (0 : Int) ≤ 0 ∧ (0 : Int) ≤ 3; omega, (fun hh => by cases hh), (fun hh => by cases hh), (fun hh => by cases hh), ?_, ?_⟩
   · show 0 ≤ (if dp ≤ 8 then (2 : Int) ^ dp.toNat else 0) ∧ (if dp ≤ 8 then (2 : Int) ^ dp.toNat else 0) ≤ 256
     rcases d with d | d | d | d <;> subst d <;> decide
   · show dp ≤ 8 → 1 ≤ (if dp ≤ 8 then (2 : Int) ^ dp.toNat else 0) ∧ (if dp ≤ 8 then (2 : Int) ^ dp.toNat else 0) ≤ 2 ^ dp.toNat
     rcases d with d | d | d | d <;> subst d <;> decide
 · have e1 : fdOf b = aj b := by unfold fdOf; rw [if_neg h12]
   have e2 : ao b = greatH b := by unfold ao; rw [if_neg h12]
   rw [e1] at hn
   rw [e2]
   unfold aj sidesF at hn
   have a3 := hn (ab (aC b 8 4) == 0, 2, 8) (by simp)
   have a4 := hn (decide (ab (aC b 8 4) > 16384) || decide (ab (aC b 8 4) < -16384), 3, 8) (by simp)
   have a6 := hn (!dpB (aC b 14 2) true, 3, 14) (by simp)
   have a7 := hn (decide (aC b 16 4 > 3), 3, 16) (by simp)
   have a8 := hn (!fitsB (aC b 16 4) (aC b 14 2), 2, 16) (by simp)
   have a9 := hn (decide (ab (aC b 8 4) < 0) && (aC b 16 4 == 1 || aC b 16 4 == 2), 2, 8) (by simp)
   have a10 := hn (dpB (aC b 14 2) true && decide (aC b 32 4 > mostI (aC b 14 2)), 2, 32) (by simp)
   have hdT : dpB (aC b 14 2) true = true := by simpa using a6
   have d := dpB_in hdT
   simp only [beq_eq_false_iff_ne, Bool.or_eq_false_iff, decide_eq_false_iff_not] at a3 a4
   simp only [decide_eq_false_iff_not] at a7
   have b16 := (ah b 16 4).1
   have b32 := (ah b 32 4).1
   obtain ⟨dp, hdp⟩ : ∃ dp, aC b 14 2 = dp := ⟨_, rfl⟩
   obtain ⟨H, hH⟩ : ∃ H, ab (aC b 8 4) = H := ⟨_, rfl⟩
   obtain ⟨mt, hmt⟩ : ∃ mt, aC b 16 4 = mt := ⟨_, rfl⟩
   obtain ⟨co, hco⟩ : ∃ co, aC b 32 4 = co := ⟨_, rfl⟩
   have e3 : greatH b = ⟨b.size, ab (aC b 4 4), if H < 0 then -H else H, decide (H < 0), dp, mt, if co = 0 ∧ dp ≤ 8 then mostI dp else co, z8, 0⟩ := by unfold greatH; rw [hdp, hH, hmt, hco]
   rw [hdp] at d hdT a8 a10
   rw [hH] at a3 a4 a9
   rw [hmt] at a7 a8 a9 b16
   rw [hco] at a10 b32
   rw [e3]
   have a10' : ¬ co > mostI dp := by rw [hdT, Bool.true_and, decide_eq_false_iff_not] at a10; exact a10
   have a8' : fitsB mt dp = true := by simpa using a8
   have hM : mostI dp ≤ 256 ∧ 1 ≤ mostI dp ∧ (dp ≤ 8 → mostI dp = 2 ^ dp.toNat) := by rcases d with d | d | d | d | d | d <;> subst d <;> decide
   have top : mt = 1 ∨ mt = 2 → decide (H < 0) = false := fun hm => by
    rw [decide_eq_false_iff_not]
    intro hneg
    rw [decide_eq_true hneg, Bool.true_and] at a9
    rcases hm with hm | hm <;> subst hm <;> cases a9
   refine ⟨?_, ?_, ⟨b16, by show mt ≤ 3; omega⟩, fun hh => ⟨?_, top (Or.inl hh)⟩, fun hh => ⟨?_, top (Or.inr hh)⟩, fun hh => ?_, ?_, ?_⟩
   · show 1 ≤ if H < 0 then -H else H; split <;> omega
   · show (if H < 0 then -H else H) ≤ 16384; split <;> omega
   · have hh : mt = 1 := hh
     subst hh; unfold fitsB at a8'; simpa using a8'
   · have hh : mt = 2 := hh
     subst hh; unfold fitsB at a8'; simpa using a8'
   · have hh : mt = 3 := hh
     subst hh; unfold fitsB at a8'; simpa using a8'
   · show 0 ≤ (if co = 0 ∧ dp ≤ 8 then mostI dp else co) ∧ (if co = 0 ∧ dp ≤ 8 then mostI dp else co) ≤ 256
     split <;> omega
   · show dp ≤ 8 → 1 ≤ (if co = 0 ∧ dp ≤ 8 then mostI dp else co) ∧ (if co = 0 ∧ dp ≤ 8 then mostI dp else co) ≤ 2 ^ dp.toNat
     intro h8
     have := hM.2.2 h8
     rw [← this]
     split <;> omega
theorem rbad_ne {k a : Int} {H : Hd} {r g b q fr en : Int} (hk : k ≠ 0) (h : aN k a = rOk H r g b q fr en) : False := by
 have h1 : (aN k a)[13]? = (rOk H r g b q fr en)[13]? := by rw [h]
 have h2 : some (Value.int .i64 k) = some (Value.int .i64 0) := h1
 injection h2 with h2; injection h2 with h2 h3
 exact hk h3
theorem rok_first {s : ByteArray} {p : Nat} {H : Hd} {r g b q fr en : Int} (h : aZ s p = rOk H r g b q fr en) : aU (aC s p 4) = true ∧ (p : Int) + aC s p 4 ≤ s.size ∧ (aO (fdOf (s.extract p (p + (aC s p 4).toNat)))).2 = false := by
 have b0 := (ah s p 4).1
 unfold aZ at h
 by_cases h1 : s.size < p + 4
 · rw [if_pos h1] at h; exact (rbad_ne (by decide) h).elim
 rw [if_neg h1] at h
 by_cases h2 : (aC s p 4 == 16 || aC s p 4 == 64) = true
 · rw [if_pos h2] at h; exact (rbad_ne (by decide) h).elim
 rw [if_neg h2] at h
 by_cases h3 : aU (aC s p 4) = false
 · rw [if_pos h3] at h; exact (rbad_ne (by decide) h).elim
 rw [if_neg h3] at h
 by_cases h4 : (s.size : Int) < p + aC s p 4
 · rw [if_pos h4] at h; exact (rbad_ne (by decide) h).elim
 rw [if_neg h4] at h
 refine ⟨by simpa using h3, by omega, ?_⟩
 have hz : (s.extract p (p + (aC s p 4).toNat)).size = (aC s p 4).toNat := by rw [ByteArray.size_extract]; omega
 obtain ⟨bb, hbb⟩ : ∃ bb, s.extract p (p + (aC s p 4).toNat) = bb := ⟨_, rfl⟩
 rw [hbb] at h hz ⊢
 by_cases h5 : (aC s p 4 == 12) = true
 · rw [if_pos h5] at h
   have e12 : bb.size = 12 := by rw [hz]; rw [beq_iff_eq] at h5; omega
   have e1 : fdOf bb = smallF bb := by unfold fdOf; rw [if_pos e12]
   unfold rShort at h
   by_cases h6 : (aO (smallF bb)).2 = true
   · rw [if_pos h6] at h
     exact (rbad_ne (by rw [← e1]; exact fdOf_kind bb (by rw [e1]; exact h6)) h).elim
   · rw [e1]; simpa using h6
 · rw [if_neg h5] at h
   have e12 : bb.size ≠ 12 := by rw [hz]; intro hh; exact h5 (by rw [beq_iff_eq]; omega)
   have e1 : fdOf bb = aj bb := by unfold fdOf; rw [if_neg e12]
   by_cases h6 : (aO (aj bb)).2 = true
   · rw [if_pos h6] at h
     exact (rbad_ne (by rw [← e1]; exact fdOf_kind bb (by rw [e1]; exact h6)) h).elim
   · rw [e1]; simpa using h6
/-! ### entries -/
theorem colsL_len (t : ByteArray) (k : Nat) : ∀ m, (colsL t k m).length = 4 * m
 | 0 => rfl
 | m + 1 => by rw [colsL, List.length_append, colsL_len t k m]; show 4 * m + 4 = _; omega
theorem colsL_px (t : ByteArray) (k : Nat) : ∀ m e, e < m → pxC (colsL t k m) e = entC (t.extract (e * k) t.size)
 | 0, e, h => by omega
 | m + 1, e, h => by
   unfold pxC
   rw [colsL]
   by_cases h1 : e < m
   · have hl := colsL_len t k m
     rw [List.drop_append_of_le_length (by omega), List.take_append_of_le_length (by rw [List.length_drop]; omega)]
     exact colsL_px t k m e h1
   · obtain rfl : e = m := by omega
     rw [List.drop_append_of_le_length (by rw [colsL_len]; omega), List.drop_of_length_le (by rw [colsL_len]; omega), List.nil_append]
     rfl
theorem colsL_all (t : ByteArray) (k : Nat) : ∀ m, ∀ u ∈ colsL t k m, u.oneCell' = true
 | 0, u, h => by cases h
 | m + 1, u, h => by
   rw [colsL] at h
   rcases List.mem_append.1 h with h | h
   · exact colsL_all t k m u h
   · unfold entC at h; simp at h; rcases h with h | h | h | h <;> subst h <;> rfl
theorem ent_px (K : JK) (e : Nat) (s : ByteArray) (a sz te : Nat) (hsz : sz = 3 ∨ sz = 4) (hb : K.p.b4 e = col3 (s.extract (a + sz * e) (a + sz * e + sz))) (hin : a + sz * e + sz ≤ te) (hte : te ≤ s.size) :
 K.px e = entC ((s.extract a te).extract (e * sz) (s.extract a te).size) := by
 have hz : (s.extract a te).size = te - a := by rw [ByteArray.size_extract]; omega
 have hes : e * sz = sz * e := Nat.mul_comm _ _
 have key : ∀ j, j < 3 → aG ((s.extract a te).extract (e * sz) (s.extract a te).size) j = aG (s.extract (a + sz * e) (a + sz * e + sz)) j := by
  intro j hj
  rw [byN_ext (s.extract a te) (e * sz) (s.extract a te).size j (by rw [hz, hes]; omega) (Nat.le_refl _), byN_ext s a te (e * sz + j) (by rw [hes]; omega) hte, byN_ext s (a + sz * e) (a + sz * e + sz) j (by omega) (by omega), hes]
  congr 1; omega
 have hent : K.p.ent e = strOf (K.p.b4 e) := rfl
 unfold JK.px entC
 rw [Int.toNat_natCast, hent, hb, key 0 (by decide), key 1 (by decide), key 2 (by decide)]
 have g : ∀ j x, (col3 (s.extract (a + sz * e) (a + sz * e + sz)))[j]? = some x → 0 ≤ x → x < 256 → aG (strOf (col3 (s.extract (a + sz * e) (a + sz * e + sz)))) j = x := fun j x h1 h2 h3 => byN_strOf3 _ j x h1 h2 h3
 rw [g 0 _ rfl (aS _ _).1 (aS _ _).2, g 1 _ rfl (aS _ _).1 (aS _ _).2, g 2 _ rfl (aS _ _).1 (aS _ _).2, g 3 255 rfl (by decide) (by decide)]
structure TabOf (s : ByteArray) (a kd co : Nat) (L : Nat) (p : Pal) : Prop where
 n : p.n = co
 L : p.b.L = L
 ent : ∀ j, j < co → p.b4 j = col3 (s.extract (a + kd * j) (a + kd * j + kd))
structure RleRich (w : World) (X RR : Nat) (x : Sr) (l : Led) (p : Pal) (r : Ras) (W H M : Nat) (dp f : Int) (tb : List Value) (fu : Nat) (e : Ending) (w' : World) : Prop where
 y : ∃ (y : Sr) (m : Led) (d : List Int) (k : Nat) (t : Int × Int), e = .returned (.agg (fc f t).toArray) ∧ Pair w' X y m ∧ y.L = x.L ∧ y.p ≤ x.e ∧ RasAt w' RR { r with b := { r.b with d := d } } ∧ m = { l with st := l.st + k } ∧ x.p + k ≤ y.p + W * H + 1 ∧
  (match rle22 x.s tb M W H dp x.e fu ⟨0, 0, x.p, aY r.b.d⟩ with
    | .error z => t = z ∧ z.1 ≠ 0
    | .ok L => t = (0, 0) ∧ aY d = L)
 c : Chg (fun k => k = X ∨ k = x.L ∨ k = r.b.g) w w'
end Go.Proofs.YtfchnibjjokmbaaGreat

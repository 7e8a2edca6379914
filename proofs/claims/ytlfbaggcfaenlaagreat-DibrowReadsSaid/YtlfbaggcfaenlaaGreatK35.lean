/- What the rows do is what the document says, where nothing is refused; what it costs: plain. -/
import Derived.Test.YtlfbaggcfaenlaaGreatK28
import Derived.Test.YtlfbaggcfaenlaaGreatK34
import Derived.Test.YtlfbaggcfaenlaaGreatK0
namespace Go.Proofs.YtlfbaggcfaenlaaGreat
open Go.RowKit
set_option linter.unusedVariables false
set_option linter.unusedSimpArgs false
structure QCost (K : QK) (σ : QS) (q : QS × (Int × Int)) (c : Nat) : Prop where
  ok : q.1.l.ok
  lw : ∃ k, LW σ.l q.1.l k ∧ k ≤ c
  a1 : q.1.a ≤ K.x.e
  br : q.1.l.br = true → q.2.1 = 4 ∧ 0 ≤ q.2.2 ∧ q.2.2 ≤ K.x.e
  len : q.1.d.length = σ.d.length
theorem QCost.trans {K : QK} {σ τ : QS} {t : Int × Int} {q : QS × (Int × Int)} {c c' : Nat} (h : QCost K σ (τ, t) c) (hb : τ.l.br = false) (g : QCost K τ q c') : QCost K σ q (c + c') := by
  obtain ⟨k1, l1, b1⟩ := h.lw
  obtain ⟨k2, l2, b2⟩ := g.lw
  exact ⟨g.ok, ⟨k1 + k2, l1.trans hb l2, by omega⟩, g.a1, g.br, g.len.trans h.len⟩
theorem QCost.mono {K : QK} {σ : QS} {q : QS × (Int × Int)} {c c' : Nat} (h : QCost K σ q c) (hc : c ≤ c') : QCost K σ q c' := by
  obtain ⟨k1, l1, b1⟩ := h.lw
  exact ⟨h.ok, ⟨k1, l1, by omega⟩, h.a1, h.br, h.len⟩
theorem QCost.stay {K : QK} {σ : QS} (ho : σ.l.ok) (hb : σ.l.br = false) (ha : σ.a ≤ K.x.e) (t : Int × Int) : QCost K σ (σ, t) 0 :=
  ⟨ho, ⟨0, LW.refl _, Nat.le_refl _⟩, ha, (fun h => by rw [hb] at h; cases h), rfl⟩
theorem qnext_cost {K : QK} {σ : QS} (ho : σ.l.ok) (hb : σ.l.br = false) (ha : σ.a ≤ K.x.e) (n : Nat) :
    (K.next σ n = (⟨σ.now, σ.left, σ.a + n, (σ.l.work 1).1, σ.d⟩, (K.x.s.extract σ.a (σ.a + n), true)) ∧ (σ.l.work 1).1.br = false ∧ σ.a + n ≤ K.x.e ∧ (σ.l.work 1).1.ok ∧ LW σ.l (σ.l.work 1).1 1) ∨
    (K.next σ n = (⟨σ.now, σ.left, σ.a, (σ.l.work 1).1, σ.d⟩, (ByteArray.empty, false)) ∧ (σ.l.work 1).1.ok ∧ (∃ k, LW σ.l (σ.l.work 1).1 k ∧ k ≤ 1) ∧ ((σ.l.work 1).1.br = true → K.ft (σ.l.work 1).1 σ.a = (4, (σ.a : Int))) ∧ ((σ.l.work 1).1.br = false → K.x.e < σ.a + n ∧ K.ft (σ.l.work 1).1 σ.a = (1, (K.x.e : Int)))) := by
  have hok := Led.work_ok ho 1
  rcases LW.one hb ho with ⟨h1, h2, h3⟩ | ⟨h1, h2, h3⟩
  · by_cases hn : n ≤ K.x.e - σ.a
    · left
      exact ⟨by unfold QK.next; rw [if_pos ⟨h1, hn⟩], h3, by omega, hok, h2⟩
    · right
      refine ⟨by unfold QK.next; rw [if_neg (fun h => hn h.2)], hok, ⟨1, h2, Nat.le_refl _⟩, (fun h => by rw [h3] at h; cases h), fun _ => ⟨by omega, ?_⟩⟩
      unfold QK.ft; rw [if_neg (by rw [h3]; decide)]
  · right
    refine ⟨by unfold QK.next; rw [if_neg (fun h => by rw [h1] at h; cases h.1)], hok, ⟨0, h2, by omega⟩, fun _ => ?_, (fun h => by rw [h3] at h; cases h)⟩
    unfold QK.ft; rw [if_pos h3]
structure QPos (K : QK) (fr x : Nat) (σ : QS) : Prop where
  a : σ.a = fr + (x * K.dp + 7) / 8
  l : σ.left = (8 - x * K.dp % 8) % 8
  n : x * K.dp % 8 ≠ 0 → (σ.now : Int) = byN K.x.s (fr + x * K.dp / 8)
structure QSame (K : QK) (h : H21) (tb : List Value) (M : Nat) : Prop where
  dp : K.dp = h.dp
  dk : dpOk K.dp
  es : K.x.e ≤ K.x.s.size
  pn : K.dp ≤ 8 → K.p.n = M
  px : K.dp ≤ 8 → ∀ e : Nat, e < M → c4v (c4e (K.p.ent e)) = pxC tb e
  wc : K.dp = 16 ∨ K.dp = 32 → ∀ v, c4v (K.wcol v) = colR v h.r h.g h.b h.q
  W : K.r.w = h.W
  H : K.r.h = h.H
def pixE (h : H21) (s : ByteArray) (tb : List Value) (M te fr x : Nat) : E22 (List Value) := if te < fr + x * h.dp / 8 + wsz h.dp then .error (1, te) else px21 h s tb M (fr + x * h.dp / 8) x
structure PixSim (K : QK) (h : H21) (tb : List Value) (M fr x : Nat) (σ : QS) : Prop where
  c : QCost K σ ((K.pix σ).1, (K.pix σ).2.2) 1
  d : (K.pix σ).1.d = σ.d
  y : (K.pix σ).1.l.br = false → match pixE h K.x.s tb M K.x.e fr x with
    | .error z => (K.pix σ).2.2 = z ∧ z.1 ≠ 0
    | .ok cs => (K.pix σ).2.2 = (0, 0) ∧ c4v (K.pix σ).2.1 = cs ∧ QPos K fr (x + 1) (K.pix σ).1
theorem num_low (s : ByteArray) (p k : Nat) (h : p + k ≤ s.size) : numB (s.extract p (p + k)) true = lowK s p k := by
  have hz : (s.extract p (p + k)).size = k := by rw [ByteArray.size_extract]; omega
  unfold numB
  rw [if_pos rfl, hz]
  exact lowK_lo s p (p + k) k (Nat.le_refl _) h
theorem pix_sim {K : QK} {h : H21} {tb : List Value} {M : Nat} (hs : QSame K h tb M) (fr x : Nat) (σ : QS) (ho : σ.l.ok) (hb : σ.l.br = false) (ha : σ.a ≤ K.x.e) (hp : QPos K fr x σ) : PixSim K h tb M fr x σ := by
  obtain ⟨pa, pl, pn⟩ := hp
  have hdk := hs.dk
  have hes := hs.es
  have hdp := hs.dp
  by_cases h1 : K.dp = 16 ∨ K.dp = 32
  · -- a word
    have hz : K.wz = K.dp / 8 := by unfold QK.wz; rcases h1 with e | e <;> rw [e] <;> decide
    have ez : wsz h.dp = K.dp / 8 := by unfold wsz; rw [← hdp, if_pos (by omega)]
    have e8 : x * K.dp % 8 = 0 := by rcases h1 with e | e <;> rw [e] <;> omega
    have ea : σ.a = fr + x * K.dp / 8 := by rw [pa]; omega
    have el : σ.left = 0 := by rw [pl, e8]
    have epix : K.pix σ = K.word σ := by unfold QK.pix; rw [if_pos h1]
    have hnp : (x + 1) * K.dp = x * K.dp + K.dp := by rw [Nat.add_mul, Nat.one_mul]
    have hpd : (x * K.dp + K.dp) % 8 = 0 := by rcases h1 with e | e <;> rw [e] at e8 ⊢ <;> omega
    rcases qnext_cost ho hb ha (K.dp / 8) with ⟨n1, n2, n3, n4, n5⟩ | ⟨n1, n2, n3, n4, n5⟩
    · have ew : K.word σ = (⟨σ.now, σ.left, σ.a + K.dp / 8, (σ.l.work 1).1, σ.d⟩, (K.wcol (lowK K.x.s σ.a (K.dp / 8)), (0, 0))) := by
        unfold QK.word QK.wordB
        rw [hz, n1, num_low _ _ _ (by omega)]; rfl
      refine ⟨?_, ?_, ?_⟩
      · rw [epix, ew]; exact ⟨n4, ⟨1, n5, Nat.le_refl _⟩, n3, (fun hh => by rw [show ((⟨σ.now, σ.left, σ.a + K.dp / 8, (σ.l.work 1).1, σ.d⟩ : QS).l.br = false) from n2] at hh; cases hh), rfl⟩
      · rw [epix, ew]
      · intro _
        have e1 : pixE h K.x.s tb M K.x.e fr x = .ok (colR (lowK K.x.s σ.a (K.dp / 8)) h.r h.g h.b h.q) := by
          unfold pixE px21
          rw [ez, ← hdp, ← ea, if_neg (by omega), if_neg (by omega), if_neg (by omega)]
        rw [e1, epix, ew]
        refine ⟨rfl, hs.wc h1 _, ⟨?_, ?_, fun hh => absurd (by rw [hnp]; exact hpd) hh⟩⟩
        · show σ.a + K.dp / 8 = _; rw [hnp]; rcases h1 with e | e <;> rw [e] at ea e8 ⊢ <;> omega
        · show σ.left = _; rw [hnp, hpd, el]
    · have ew : K.word σ = (⟨σ.now, σ.left, σ.a, (σ.l.work 1).1, σ.d⟩, (c4z, K.ft (σ.l.work 1).1 σ.a)) := by
        unfold QK.word QK.wordB
        rw [hz, n1]; exact if_neg (fun h => by cases h)
      refine ⟨?_, ?_, ?_⟩
      · rw [epix, ew]; exact ⟨n2, n3, ha, fun hh => by rw [n4 hh]; exact ⟨rfl, by simp only; omega, by simp only; omega⟩, rfl⟩
      · rw [epix, ew]
      · intro hbr
        rw [epix, ew] at hbr
        obtain ⟨m1, m2⟩ := n5 hbr
        have e1 : pixE h K.x.s tb M K.x.e fr x = .error (1, (K.x.e : Int)) := by
          unfold pixE
          rw [ez, ← hdp, ← ea, if_pos (by omega)]
        rw [e1, epix, ew]
        exact ⟨m2, by show (1 : Int) ≠ 0; decide⟩
  · by_cases h2 : K.dp = 24
    · -- three bytes
      have ez : wsz h.dp = 3 := by unfold wsz; rw [← hdp, h2]; rfl
      have e8 : x * K.dp % 8 = 0 := by rw [h2]; omega
      have ea : σ.a = fr + x * K.dp / 8 := by rw [pa]; omega
      have el : σ.left = 0 := by rw [pl, e8]
      have epix : K.pix σ = K.thr σ := by unfold QK.pix; rw [if_neg h1, if_pos h2]
      have hnp : (x + 1) * K.dp = x * K.dp + K.dp := by rw [Nat.add_mul, Nat.one_mul]
      have hpd : (x * K.dp + K.dp) % 8 = 0 := by rw [h2] at e8 ⊢; omega
      rcases qnext_cost ho hb ha 3 with ⟨n1, n2, n3, n4, n5⟩ | ⟨n1, n2, n3, n4, n5⟩
      · have ew : K.thr σ = (⟨σ.now, σ.left, σ.a + 3, (σ.l.work 1).1, σ.d⟩, (c4t (K.x.s.extract σ.a (σ.a + 3)), (0, 0))) := by
          unfold QK.thr QK.thrB
          rw [n1, if_pos rfl]
        refine ⟨?_, ?_, ?_⟩
        · rw [epix, ew]; exact ⟨n4, ⟨1, n5, Nat.le_refl _⟩, n3, (fun hh => by rw [show ((⟨σ.now, σ.left, σ.a + 3, (σ.l.work 1).1, σ.d⟩ : QS).l.br = false) from n2] at hh; cases hh), rfl⟩
        · rw [epix, ew]
        · intro _
          have e1 : pixE h K.x.s tb M K.x.e fr x = .ok [.int .u8 (byN K.x.s (σ.a + 2)), .int .u8 (byN K.x.s (σ.a + 1)), .int .u8 (byN K.x.s σ.a), .int .u8 255] := by
            unfold pixE px21
            rw [ez, ← hdp, ← ea, if_neg (by omega), if_neg (by omega), if_pos h2]
          rw [e1, epix, ew]
          refine ⟨rfl, ?_, ⟨?_, ?_, fun hh => absurd (by rw [hnp]; exact hpd) hh⟩⟩
          · show c4v (c4t _) = _
            unfold c4v c4t
            simp only
            rw [byN_ext _ _ _ 0 (by omega) (by omega), byN_ext _ _ _ 1 (by omega) (by omega), byN_ext _ _ _ 2 (by omega) (by omega)]
            rfl
          · show σ.a + 3 = _; rw [hnp, h2] at *; omega
          · show σ.left = _; rw [hnp, hpd, el]
      · have ew : K.thr σ = (⟨σ.now, σ.left, σ.a, (σ.l.work 1).1, σ.d⟩, (c4z, K.ft (σ.l.work 1).1 σ.a)) := by
          unfold QK.thr QK.thrB
          rw [n1]; exact if_neg (fun h => by cases h)
        refine ⟨?_, ?_, ?_⟩
        · rw [epix, ew]; exact ⟨n2, n3, ha, fun hh => by rw [n4 hh]; exact ⟨rfl, by simp only; omega, by simp only; omega⟩, rfl⟩
        · rw [epix, ew]
        · intro hbr
          rw [epix, ew] at hbr
          obtain ⟨m1, m2⟩ := n5 hbr
          have e1 : pixE h K.x.s tb M K.x.e fr x = .error (1, (K.x.e : Int)) := by
            unfold pixE
            rw [ez, ← hdp, ← ea, if_pos (by omega)]
          rw [e1, epix, ew]
          exact ⟨m2, by show (1 : Int) ≠ 0; decide⟩
    · -- a number
      have h3 : K.dp = 1 ∨ K.dp = 4 ∨ K.dp = 8 := by unfold dpOk at hdk; omega
      have h8 : K.dp ≤ 8 := by omega
      have ez : wsz h.dp = 1 := by unfold wsz; rw [← hdp, if_neg (by omega)]
      have epix : K.pix σ = K.num σ := by unfold QK.pix; rw [if_neg h1, if_neg h2]
      have hnp : (x + 1) * K.dp = x * K.dp + K.dp := by rw [Nat.add_mul, Nat.one_mul]
      obtain ⟨xd, hxd⟩ : ∃ m, x * K.dp = m := ⟨_, rfl⟩
      have hmod : xd % 8 + K.dp ≤ 8 := by rcases h3 with e | e | e <;> rw [e] at hxd ⊢ <;> omega
      rw [hxd] at pa pl pn hnp
      have hnum : ∀ (τ : QS) (v : Nat), K.bits σ = (τ, some v) → τ.l.ok → (∃ k, LW σ.l τ.l k ∧ k ≤ 1) → τ.l.br = false → τ.a ≤ K.x.e → τ.d = σ.d → τ.a = fr + xd / 8 + 1 → fr + xd / 8 < K.x.e → v = (ent21 (byN K.x.s (fr + xd / 8)) K.dp x).toNat → QPos K fr (x + 1) τ → PixSim K h tb M fr x σ := by
        intro τ v hbits t0 tl tb' ta td tp tin hv tpos
        have hent := ent21_bd (byN K.x.s (fr + xd / 8)) K.dp x (byN_bd _ _).1
        have epx : pixE h K.x.s tb M K.x.e fr x = if v < M then .ok (pxC tb v) else .error (2, ((fr + xd / 8 : Nat) : Int)) := by
          unfold pixE px21
          rw [ez, ← hdp, hxd, if_neg (by omega), if_pos h8, hv]
        by_cases hm : v < M
        · have hh : K.p.has (v : Int) = true := by unfold Pal.has; rw [decide_eq_true_iff, hs.pn h8]; omega
          have ew : K.num σ = (τ, (c4e (K.p.ent v), (0, 0))) := by unfold QK.num; rw [hbits]; unfold QK.nmB; exact if_pos hh
          refine ⟨?_, ?_, ?_⟩
          · rw [epix, ew]; exact ⟨t0, tl, ta, (fun h => by rw [show (τ.l.br = false) from tb'] at h; cases h), by rw [show ((τ, c4e (K.p.ent v), ((0 : Int), (0 : Int))).1.d = σ.d) from td]⟩
          · rw [epix, ew]; exact td
          · intro _
            rw [epx, if_pos hm, epix, ew]
            exact ⟨rfl, hs.px h8 v hm, tpos⟩
        · have hh : K.p.has (v : Int) = false := by unfold Pal.has; rw [decide_eq_false_iff_not, hs.pn h8]; omega
          have ew : K.num σ = (τ, (c4z, (2, (τ.a : Int) - 1))) := by unfold QK.num; rw [hbits]; unfold QK.nmB; exact if_neg (by rw [hh]; decide)
          refine ⟨?_, ?_, ?_⟩
          · rw [epix, ew]; exact ⟨t0, tl, ta, (fun h => by rw [show (τ.l.br = false) from tb'] at h; cases h), by rw [show ((τ, c4z, ((2 : Int), (τ.a : Int) - 1)).1.d = σ.d) from td]⟩
          · rw [epix, ew]; exact td
          · intro _
            rw [epx, if_neg hm, epix, ew]
            refine ⟨?_, by show (2 : Int) ≠ 0; decide⟩
            show ((2 : Int), (τ.a : Int) - 1) = _
            rw [tp, show (((fr + xd / 8 + 1 : Nat) : Int) - 1) = ((fr + xd / 8 : Nat) : Int) by omega]
      have hval : ∀ B : Nat, (B : Int) = byN K.x.s (fr + xd / 8) → valB B (8 - xd % 8) K.dp = (ent21 (byN K.x.s (fr + xd / 8)) K.dp x).toNat := by
        intro B hB
        unfold ent21 valB
        rw [← hB, hxd, show 8 - xd % 8 - K.dp = 8 - K.dp - xd % 8 by omega]
        have h1 : (B : Int) / 2 ^ (8 - K.dp - xd % 8) % 2 ^ K.dp = ((B / 2 ^ (8 - K.dp - xd % 8) % 2 ^ K.dp : Nat) : Int) := by simp
        rw [h1, Int.toNat_natCast]
      by_cases hz : xd % 8 = 0
      · have el : σ.left = 0 := by rw [pl, hz]
        have ea : σ.a = fr + xd / 8 := by rw [pa]; omega
        rcases qnext_cost ho hb ha 1 with ⟨n1, n2, n3, n4, n5⟩ | ⟨n1, n2, n3, n4, n5⟩
        · have hbn := byN_bd K.x.s σ.a
          have hB : (((byN K.x.s σ.a).toNat : Nat) : Int) = byN K.x.s (fr + xd / 8) := by rw [← ea]; exact Int.toNat_of_nonneg hbn.1
          have hbits : K.bits σ = (⟨(byN K.x.s σ.a).toNat, 8 - K.dp, σ.a + 1, (σ.l.work 1).1, σ.d⟩, some (valB (byN K.x.s σ.a).toNat 8 K.dp)) := by
            unfold QK.bits; rw [if_pos el, n1]; exact if_pos rfl
          refine hnum _ _ hbits n4 ⟨1, n5, Nat.le_refl _⟩ n2 n3 rfl (by show σ.a + 1 = _; omega) (by omega) ?_ ⟨?_, ?_, fun hh => ?_⟩
          · have := hval _ hB; rw [hz] at this; exact this
          · show σ.a + 1 = _; rw [hnp]; omega
          · show 8 - K.dp = _; rw [hnp]; rcases h3 with e | e | e <;> rw [e] at hmod ⊢ <;> omega
          · show (((byN K.x.s σ.a).toNat : Nat) : Int) = _; rw [hB, hnp]; rw [hnp] at hh; congr 2; omega
        · have ew : K.num σ = (⟨σ.now, σ.left, σ.a, (σ.l.work 1).1, σ.d⟩, (c4z, K.ft (σ.l.work 1).1 σ.a)) := by
            have hbits : K.bits σ = (⟨σ.now, σ.left, σ.a, (σ.l.work 1).1, σ.d⟩, none) := by
              unfold QK.bits; rw [if_pos el, n1]; exact if_neg (fun h => by cases h)
            unfold QK.num; rw [hbits]; rfl
          refine ⟨?_, ?_, ?_⟩
          · rw [epix, ew]; exact ⟨n2, n3, ha, fun hh => by rw [n4 hh]; exact ⟨rfl, by simp only; omega, by simp only; omega⟩, rfl⟩
          · rw [epix, ew]
          · intro hbr
            rw [epix, ew] at hbr
            obtain ⟨m1, m2⟩ := n5 hbr
            have e1 : pixE h K.x.s tb M K.x.e fr x = .error (1, (K.x.e : Int)) := by
              unfold pixE
              rw [ez, ← hdp, hxd, if_pos (by omega)]
            rw [e1, epix, ew]
            exact ⟨m2, by show (1 : Int) ≠ 0; decide⟩
      · have el : σ.left = 8 - xd % 8 := by rw [pl]; omega
        have hbits : K.bits σ = (⟨σ.now, σ.left - K.dp, σ.a, σ.l, σ.d⟩, some (valB σ.now σ.left K.dp)) := by
          unfold QK.bits; rw [if_neg (by omega)]
        refine hnum _ _ hbits ho ⟨0, LW.refl _, by omega⟩ hb ha rfl (by show σ.a = _; omega) (by omega) ?_ ⟨?_, ?_, fun hh => ?_⟩
        · rw [el]; exact hval _ (pn hz)
        · show σ.a = _; rw [hnp]; omega
        · show σ.left - K.dp = _; rw [hnp, el]; omega
        · show (σ.now : Int) = _; rw [pn hz, hnp]; rw [hnp] at hh; congr 2; omega
end Go.Proofs.YtlfbaggcfaenlaaGreat

/- Rows: what they come to, where nothing is refused; what they cost: plain. -/
import Derived.Test.YtlfbaggcfaenlaaGreatK35
import Derived.Test.YtlfbaggcfaenlaaGreatK0
namespace Go.Proofs.YtlfbaggcfaenlaaGreat
open Go.RowKit
set_option linter.unusedVariables false
set_option linter.unusedSimpArgs false
theorem qput_cost {K : QK} {σ : QS} (ho : σ.l.ok) (hb : σ.l.br = false) (ha : σ.a ≤ K.x.e) (x y : Nat) (c : C4) :
    (K.putC σ x y c = (⟨σ.now, σ.left, σ.a, (σ.l.work 1).1, put4 σ.d (4 * (y * K.r.w + x)) c.1 c.2.1 c.2.2.1 c.2.2.2⟩, true) ∧ (σ.l.work 1).1.br = false ∧ (σ.l.work 1).1.ok ∧ LW σ.l (σ.l.work 1).1 1) ∨
    (K.putC σ x y c = (⟨σ.now, σ.left, σ.a, (σ.l.work 1).1, σ.d⟩, false) ∧ (σ.l.work 1).1.br = true ∧ (σ.l.work 1).1.ok ∧ LW σ.l (σ.l.work 1).1 0 ∧ K.ft (σ.l.work 1).1 σ.a = (4, (σ.a : Int))) := by
  have hok := Led.work_ok ho 1
  rcases LW.one hb ho with ⟨h1, h2, h3⟩ | ⟨h1, h2, h3⟩
  · exact Or.inl ⟨by unfold QK.putC QK.put; rw [if_pos h1], h3, hok, h2⟩
  · exact Or.inr ⟨by unfold QK.putC QK.put; rw [if_neg (by rw [h1]; decide)], h3, hok, h2, by unfold QK.ft; rw [if_pos h3]⟩
structure RowSim (K : QK) (σ : QS) (q : QS × (Int × Int)) (c : Nat) (R : E22 (List Value)) (P : QS → Prop) : Prop where
  c : QCost K σ q c
  y : q.1.l.br = false → match R with
    | .error z => q.2 = z ∧ z.1 ≠ 0
    | .ok L => q.2 = (0, 0) ∧ u8s q.1.d = L ∧ P q.1
theorem row_sim {K : QK} {h : H21} {tb : List Value} {M : Nat} (hs : QSame K h tb M) (fr y : Nat) (hy : y < h.H) : ∀ (c x : Nat) (σ : QS), x + c = h.W → σ.l.ok → σ.l.br = false → σ.a ≤ K.x.e → σ.d.length = 4 * (h.W * h.H) → QPos K fr x σ →
    RowSim K σ (K.row y c x σ) (2 * c) (row21 h K.x.s tb M K.x.e fr y c x (u8s σ.d)) (QPos K fr h.W)
  | 0, x, σ, hx, ho, hb, ha, hl, hp => by
    have hx : x = h.W := hx
    subst hx
    exact ⟨QCost.stay ho hb ha _, fun _ => ⟨rfl, rfl, hp⟩⟩
  | c + 1, x, σ, hx, ho, hb, ha, hl, hp => by
    have hm : (y + 1) * h.W ≤ h.H * h.W := Nat.mul_le_mul_right _ hy
    rw [Nat.add_mul, Nat.one_mul, Nat.mul_comm h.H] at hm
    obtain ⟨pc, pd, py⟩ := pix_sim hs fr x σ ho hb ha hp
    have er : row21 h K.x.s tb M K.x.e fr y (c + 1) x (u8s σ.d) = bindE (pixE h K.x.s tb M K.x.e fr x) fun cs => row21 h K.x.s tb M K.x.e fr y c (x + 1) (putC (u8s σ.d) (4 * (y * h.W + x)) cs) := by
      rw [row21]; unfold pixE; split <;> rfl
    rw [er]
    obtain ⟨Q, hQ⟩ : ∃ Q, K.pix σ = Q := ⟨_, rfl⟩
    rw [hQ] at pc pd py
    have ek : K.row y (c + 1) x σ = if Q.2.2.1 = 0 then (if (K.putC Q.1 x y Q.2.1).2 = true then K.row y c (x + 1) (K.putC Q.1 x y Q.2.1).1 else ((K.putC Q.1 x y Q.2.1).1, K.ft (K.putC Q.1 x y Q.2.1).1.l (K.putC Q.1 x y Q.2.1).1.a)) else (Q.1, Q.2.2) := by rw [QK.row, hQ]
    rw [ek]
    cases hbr : Q.1.l.br with
    | true =>
      have h4 := (pc.br hbr).1
      rw [if_neg (by show ¬ Q.2.2.1 = 0; rw [show Q.2.2.1 = 4 from h4]; decide)]
      exact ⟨pc.mono (by omega), fun hh => by rw [show Q.1.l.br = false from hh] at hbr; cases hbr⟩
    | false =>
      have hpy := py hbr
      cases hpe : pixE h K.x.s tb M K.x.e fr x with
      | error z =>
        rw [hpe] at hpy
        obtain ⟨g1, g2⟩ := hpy
        rw [if_neg (by rw [g1]; exact g2)]
        exact ⟨pc.mono (by omega), fun _ => ⟨g1, g2⟩⟩
      | ok cs =>
        rw [hpe] at hpy
        obtain ⟨g1, g2, g3⟩ := hpy
        rw [if_pos (by rw [g1])]
        rcases qput_cost (K := K) pc.ok hbr pc.a1 x y Q.2.1 with ⟨u1, u2, u3, u4⟩ | ⟨u1, u2, u3, u4, u5⟩
        · obtain ⟨τ, hτ⟩ : ∃ τ : QS, (⟨Q.1.now, Q.1.left, Q.1.a, (Q.1.l.work 1).1, put4 Q.1.d (4 * (y * K.r.w + x)) Q.2.1.1 Q.2.1.2.1 Q.2.1.2.2.1 Q.2.1.2.2.2⟩ : QS) = τ := ⟨_, rfl⟩
          have t1 : τ.l = (Q.1.l.work 1).1 ∧ τ.a = Q.1.a ∧ τ.d = put4 Q.1.d (4 * (y * K.r.w + x)) Q.2.1.1 Q.2.1.2.1 Q.2.1.2.2.1 Q.2.1.2.2.2 ∧ QPos K fr (x + 1) τ := by
            rw [← hτ]; exact ⟨rfl, rfl, rfl, ⟨g3.a, g3.l, g3.n⟩⟩
          obtain ⟨t1, t2, t3, t4⟩ := t1
          have eP : K.putC Q.1 x y Q.2.1 = (τ, true) := by rw [u1, ← hτ]
          rw [eP, if_pos rfl]
          have td : τ.d.length = 4 * (h.W * h.H) := by rw [t3, put4_len, show Q.1.d = σ.d from pd]; exact hl
          have c2 : QCost K Q.1 (τ, ((0 : Int), (0 : Int))) 1 := ⟨by show τ.l.ok; rw [t1]; exact u3, ⟨1, by show LW Q.1.l τ.l 1; rw [t1]; exact u4, Nat.le_refl _⟩, by show τ.a ≤ _; rw [t2]; exact pc.a1, (fun hh => by rw [show (τ.l.br = false) by rw [t1]; exact u2] at hh; cases hh), by show τ.d.length = Q.1.d.length; rw [t3, put4_len]⟩
          have ih := row_sim hs fr y hy c (x + 1) τ (by omega) (by rw [t1]; exact u3) (by rw [t1]; exact u2) (by rw [t2]; exact pc.a1) td t4
          have eput : u8s τ.d = putC (u8s σ.d) (4 * (y * h.W + x)) cs := by
            rw [t3, show Q.1.d = σ.d from pd, hs.W, put4_putC _ _ _ _ _ _ (by rw [hl]; omega), ← g2]; rfl
          rw [eput] at ih
          exact ⟨((pc.trans hbr c2).trans (by rw [t1]; exact u2) ih.c).mono (by omega), ih.y⟩
        · rw [u1, if_neg (fun hh => by cases hh)]
          have c2 : QCost K Q.1 ((⟨Q.1.now, Q.1.left, Q.1.a, (Q.1.l.work 1).1, Q.1.d⟩ : QS), K.ft (Q.1.l.work 1).1 Q.1.a) 1 := ⟨u3, ⟨0, u4, by omega⟩, pc.a1, fun _ => by rw [u5]; have := pc.a1; exact ⟨rfl, by simp only; omega, by simp only at this ⊢; omega⟩, rfl⟩
          exact ⟨(pc.trans hbr c2).mono (by omega), fun hh => by rw [show ((⟨Q.1.now, Q.1.left, Q.1.a, (Q.1.l.work 1).1, Q.1.d⟩ : QS).l.br = true) from u2] at hh; cases hh⟩
theorem stride_le (W dp : Nat) : (W * dp + 7) / 8 ≤ strideN W dp := by unfold strideN; omega
theorem pad_sim {K : QK} {h : H21} {tb : List Value} {M : Nat} (hs : QSame K h tb M) (fr : Nat) (σ : QS) (ho : σ.l.ok) (hb : σ.l.br = false) (ha : σ.a ≤ K.x.e) (hp : QPos K fr h.W σ) :
    RowSim K σ (K.pad (strideN h.W h.dp - (h.W * h.dp + 7) / 8) σ) 1 (if K.x.e < fr + strideN h.W h.dp then .error (1, (K.x.e : Int)) else .ok (u8s σ.d)) (fun τ => QPos K (fr + strideN h.W h.dp) 0 τ ∧ τ.l.br = false) := by
  have hle := stride_le h.W h.dp
  have pa := hp.a
  rw [hs.dp] at pa
  rcases qnext_cost (σ := σ.whole) ho hb ha (strideN h.W h.dp - (h.W * h.dp + 7) / 8) with ⟨n1, n2, n3, n4, n5⟩ | ⟨n1, n2, n3, n4, n5⟩
  · have e : K.pad (strideN h.W h.dp - (h.W * h.dp + 7) / 8) σ = ((⟨σ.now, 0, σ.a + (strideN h.W h.dp - (h.W * h.dp + 7) / 8), (σ.l.work 1).1, σ.d⟩ : QS), ((0 : Int), (0 : Int))) := by
      unfold QK.pad; rw [n1]; exact if_pos rfl
    have n3 : σ.a + (strideN h.W h.dp - (h.W * h.dp + 7) / 8) ≤ K.x.e := n3
    have n2 : (σ.l.work 1).1.br = false := n2
    rw [e, if_neg (by omega)]
    refine ⟨⟨n4, ⟨1, n5, Nat.le_refl _⟩, n3, (fun hh => by rw [show ((⟨σ.now, 0, σ.a + (strideN h.W h.dp - (h.W * h.dp + 7) / 8), (σ.l.work 1).1, σ.d⟩ : QS).l.br = false) from n2] at hh; cases hh), rfl⟩, fun _ => ⟨rfl, rfl, ⟨?_, ?_, fun hh => absurd (by rw [Nat.zero_mul]) hh⟩, n2⟩⟩
    · show σ.a + (strideN h.W h.dp - (h.W * h.dp + 7) / 8) = _; rw [Nat.zero_mul]; omega
    · show 0 = _; rw [Nat.zero_mul]
  · have e : K.pad (strideN h.W h.dp - (h.W * h.dp + 7) / 8) σ = ((⟨σ.now, 0, σ.a, (σ.l.work 1).1, σ.d⟩ : QS), K.ft (σ.l.work 1).1 σ.a) := by
      unfold QK.pad; rw [n1]; exact if_neg (fun hh => by cases hh)
    rw [e]
    refine ⟨⟨n2, n3, ha, fun hh => by have n4 := n4 hh; rw [show K.ft (σ.l.work 1).1 σ.a = (4, (σ.a : Int)) from n4]; exact ⟨rfl, by simp only; omega, by simp only; omega⟩, rfl⟩, fun hbr => ?_⟩
    obtain ⟨m1, m2⟩ := n5 hbr
    have m1 : K.x.e < σ.a + (strideN h.W h.dp - (h.W * h.dp + 7) / 8) := m1
    rw [if_pos (by omega)]
    exact ⟨m2, by show (1 : Int) ≠ 0; decide⟩
theorem rows_sim {K : QK} {h : H21} {tb : List Value} {M : Nat} (hs : QSame K h tb M) (at_ : Nat) : ∀ (m k : Nat) (σ : QS), k + m = h.H → σ.l.ok → σ.l.br = false → σ.a ≤ K.x.e → σ.d.length = 4 * (h.W * h.H) → QPos K (at_ + k * strideN h.W h.dp) 0 σ →
    RowSim K σ (K.rows h.W h.H h.top (strideN h.W h.dp - (h.W * h.dp + 7) / 8) m k σ) (m * (2 * h.W + 1)) (rows21 h K.x.s tb M K.x.e at_ m k (u8s σ.d)) (fun τ => QPos K (at_ + h.H * strideN h.W h.dp) 0 τ)
  | 0, k, σ, hk, ho, hb, ha, hl, hp => by
    have hk : k = h.H := hk
    subst hk
    exact ⟨(QCost.stay ho hb ha _).mono (Nat.zero_le _), fun _ => ⟨rfl, rfl, hp⟩⟩
  | m + 1, k, σ, hk, ho, hb, ha, hl, hp => by
    have hyH : yOf h k < h.H := by unfold yOf; split <;> omega
    have hr := row_sim hs (at_ + k * strideN h.W h.dp) (yOf h k) hyH h.W 0 σ (by omega) ho hb ha hl hp
    obtain ⟨Q, hQ⟩ : ∃ Q, K.row (yOf h k) h.W 0 σ = Q := ⟨_, rfl⟩
    rw [hQ] at hr
    obtain ⟨pc, py⟩ := hr
    have ek : K.rows h.W h.H h.top (strideN h.W h.dp - (h.W * h.dp + 7) / 8) (m + 1) k σ = if Q.2.1 = 0 then (if (K.pad (strideN h.W h.dp - (h.W * h.dp + 7) / 8) Q.1).2.1 = 0 then K.rows h.W h.H h.top (strideN h.W h.dp - (h.W * h.dp + 7) / 8) m (k + 1) (K.pad (strideN h.W h.dp - (h.W * h.dp + 7) / 8) Q.1).1 else K.pad (strideN h.W h.dp - (h.W * h.dp + 7) / 8) Q.1) else Q := by
      rw [QK.rows, show rowY h.top h.H k = yOf h k from rfl, hQ]
    have er : rows21 h K.x.s tb M K.x.e at_ (m + 1) k (u8s σ.d) = bindE (row21 h K.x.s tb M K.x.e (at_ + k * strideN h.W h.dp) (yOf h k) h.W 0 (u8s σ.d)) fun L' => if K.x.e < at_ + k * strideN h.W h.dp + strideN h.W h.dp then .error (1, (K.x.e : Int)) else rows21 h K.x.s tb M K.x.e at_ m (k + 1) L' := by rw [rows21]
    rw [ek, er]
    have hmul : (m + 1) * (2 * h.W + 1) = m * (2 * h.W + 1) + (2 * h.W + 1) := by rw [Nat.add_mul, Nat.one_mul]
    cases hbr : Q.1.l.br with
    | true =>
      have h4 := (pc.br hbr).1
      rw [if_neg (by rw [h4]; decide)]
      exact ⟨pc.mono (by omega), fun hh => by rw [hbr] at hh; cases hh⟩
    | false =>
      have hpy := py hbr
      cases hpe : row21 h K.x.s tb M K.x.e (at_ + k * strideN h.W h.dp) (yOf h k) h.W 0 (u8s σ.d) with
      | error z =>
        rw [hpe] at hpy
        obtain ⟨g1, g2⟩ := hpy
        rw [if_neg (by rw [g1]; exact g2)]
        exact ⟨pc.mono (by omega), fun _ => ⟨g1, g2⟩⟩
      | ok L =>
        rw [hpe] at hpy
        obtain ⟨g1, g2, g3⟩ := hpy
        rw [if_pos (by rw [g1])]
        have hd := pad_sim hs (at_ + k * strideN h.W h.dp) Q.1 pc.ok hbr pc.a1 g3
        obtain ⟨V, hV⟩ : ∃ V, K.pad (strideN h.W h.dp - (h.W * h.dp + 7) / 8) Q.1 = V := ⟨_, rfl⟩
        rw [hV] at hd ⊢
        obtain ⟨dc, dy⟩ := hd
        show RowSim K σ _ _ (if K.x.e < at_ + k * strideN h.W h.dp + strideN h.W h.dp then .error (1, (K.x.e : Int)) else rows21 h K.x.s tb M K.x.e at_ m (k + 1) L) _
        have dc2 : QCost K σ V (2 * h.W + 1) := by
          have := pc.trans (t := Q.2) hbr dc
          exact this
        cases hvb : V.1.l.br with
        | true =>
          have h4 := (dc.br hvb).1
          rw [if_neg (by rw [h4]; decide)]
          exact ⟨dc2.mono (by omega), fun hh => by rw [hvb] at hh; cases hh⟩
        | false =>
          have hdy := dy hvb
          by_cases hte : K.x.e < at_ + k * strideN h.W h.dp + strideN h.W h.dp
          · rw [if_pos hte] at hdy ⊢
            obtain ⟨v1, v2⟩ := hdy
            rw [if_neg (by rw [v1]; exact v2)]
            exact ⟨dc2.mono (by omega), fun _ => ⟨v1, v2⟩⟩
          · rw [if_neg hte] at hdy ⊢
            obtain ⟨v1, v2, v3, v4⟩ := hdy
            rw [if_pos (by rw [v1])]
            have hlen : V.1.d.length = 4 * (h.W * h.H) := by rw [dc2.len]; exact hl
            have ih := rows_sim hs at_ m (k + 1) V.1 (by omega) dc2.ok hvb dc2.a1 hlen (by rw [show (k + 1) * strideN h.W h.dp = k * strideN h.W h.dp + strideN h.W h.dp by rw [Nat.add_mul, Nat.one_mul], ← Nat.add_assoc]; exact v3)
            rw [v2, g2] at ih
            exact ⟨(QCost.trans (t := V.2) dc2 hvb ih.c).mono (by omega), ih.y⟩
end Go.Proofs.YtlfbaggcfaenlaaGreat

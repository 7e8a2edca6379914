/- A text's head, for the laws of layers 21 and 22: plain; what persists. -/
import Derived.Test.YtlfbaggcfaenlaaGreatK41
import Derived.Test.YtlfbaggcfaenlaaGreatK42
import Derived.Test.YtlfbaggcfaenlaaGreatK17
import Derived.Test.YtlfbaggcfaenlaaGreatK0
namespace Go.Proofs.YtlfbaggcfaenlaaGreat
open Go.RowKit
set_option linter.unusedVariables false
set_option linter.unusedSimpArgs false
theorem rRead20_len4 (s : ByteArray) (p : Nat) : (rRead20 s p).length = 15 ∧ (rRead20 s p).all (·.oneCell') = true := by
  unfold rRead20
  by_cases h1 : s.size < p + 4
  · rw [if_pos h1]; exact rBad20_len _ _
  rw [if_neg h1]
  by_cases h2 : (lowK s p 4 == 16 || lowK s p 4 == 64) = true
  · rw [if_pos h2]; exact rBad20_len _ _
  rw [if_neg h2]
  by_cases h3 : headsB (lowK s p 4) = false
  · rw [if_pos h3]; exact rBad20_len _ _
  rw [if_neg h3]
  by_cases h4 : (s.size : Int) < p + lowK s p 4
  · rw [if_pos h4]; exact rBad20_len _ _
  rw [if_neg h4]
  by_cases h5 : (lowK s p 4 == 12) = true
  · rw [if_pos h5]; exact rShort_len _ _
  rw [if_neg h5]
  by_cases h6 : (firstW (greatF (s.extract p (p + (lowK s p 4).toNat)))).2 = true
  · rw [if_pos h6]; exact rBad20_len _ _
  rw [if_neg h6]; exact rMk_len _ _ _ _
theorem owns_chg {S : Nat → Prop} {w w' : World} {base e size n g cap : Nat} {xs : List Value} (h : w.ownsRow base e size (.slice (some ⟨g, 0, none⟩) n cap) n xs) (hc : Chg S w w') (hn : ¬ S g) : w'.ownsRow base e size (.slice (some ⟨g, 0, none⟩) n cap) n xs := by
  have hlt := (owns_blk h rfl).2
  obtain ⟨hl, h2⟩ := h
  refine ⟨hl, ?_⟩
  rcases h2 with h2 | ⟨g', cap', cur, hv, hg, hh, rest⟩
  · exact Or.inl h2
  · have e' : g' = g := by injection hv with hv; injection hv with hv; injection hv with hv; exact hv.symm
    subst e'
    exact Or.inr ⟨g', cap', cur, hv, hg, (hc.block g' hlt hn).trans hh, rest⟩
def hdM (s : ByteArray) (p : Nat) (H : Hd) : List Int := if H.mt = 3 then mk8 (mkR s p H.sz) H.dp else comM H.dp
structure HdGood (s : ByteArray) (p : Nat) (f : Int) (H : Hd) (r g b q : Int) (en : Nat) : Prop where
  ok : rRead20 s p = rOk H r g b q p en
  fine : H.fine
  more : H.more
  enl : en ≤ s.size
  e12 : p + 12 ≤ en
  mw : mWords (hdM s p H) r g b q
  rd : ∀ (L X : Nat) (l0 : Led), l0.ok → l0.br = false → l0.st + 3 < l0.mx → ∃ (k : Nat), k ≤ 3 ∧ ∀ w0, Pair w0 X ⟨L, s, 0, s.size, p⟩ l0 →
    Calls Tryz.prog 18 #[.pointer (some ⟨X, 0, none⟩), .int .i64 f] w0 fun e w' => e = .returned (.tuple #[.agg (H.at (hdM s p H) p).toArray, .agg (List.toArray [.int .i64 0, .int .i64 0, .int .i64 0])]) ∧ Pair w' X ⟨L, s, 0, s.size, en⟩ { l0 with st := l0.st + k } ∧ Chg (two X ⟨L, s, 0, s.size, p⟩) w0 w'
theorem rok_inj {H H' : Hd} {r g b q fr en r' g' b' q' fr' en' : Int} (h : rOk H r g b q fr en = rOk H' r' g' b' q' fr' en') : (H.sz = H'.sz ∧ H.w = H'.w ∧ H.h = H'.h ∧ H.top = H'.top ∧ H.dp = H'.dp ∧ H.mt = H'.mt ∧ H.co = H'.co) ∧ (r = r' ∧ g = g' ∧ b = b' ∧ q = q') ∧ en = en' := by
  unfold rOk at h
  simp only [List.cons.injEq, Value.int.injEq, Value.bool.injEq, true_and, and_true] at h
  obtain ⟨a1, a2, a3, a4, a5, a6, a7, a8, a9, a10, a11, a12, a13⟩ := h
  exact ⟨⟨a1, a2, a3, a4, a5, a6, a7⟩, ⟨a8, a9, a10, a11⟩, a13⟩
theorem head_eq (x : Sr) (l : Led) (f : Int) (hx : x.ok) (he : x.e = x.s.size) (hs : x.s.size ≤ 100000) (hl : l.ok) (hb : l.br = false) (hw : l.st + 3 < l.mx) :
    (∃ k a : Int, k ≠ 0 ∧ rRead20 x.s x.p = rBad20 k a) ∨
    (∃ (H : Hd) (r g b q : Int) (en k : Nat), H.fine ∧ H.more ∧ rRead20 x.s x.p = rOk H r g b q x.p en ∧ (hRead x l f).1 = (H.at (hdM x.s x.p H) x.p, zero3) ∧ mWords (hdM x.s x.p H) r g b q ∧ (hRead x l f).2.1 = ⟨x.L, x.s, x.b, x.e, en⟩ ∧ en ≤ x.s.size ∧ x.p + 12 ≤ en ∧ k ≤ 3 ∧ (hRead x l f).2.2 = { l with st := l.st + k }) := by
  rcases dib_eq x l f hx he hs hb (by omega) with ⟨k, a, hk, h1, -⟩ | ⟨H, m, r, g, b, q, en, hfi, h1, h2, hmw, h3, h4, h5, ⟨n, h6, h7⟩, hm⟩
  · exact Or.inl ⟨k, a, hk, h1⟩
  · right
    have hrd := hRead_rd hx hl hb f
    obtain ⟨hhd, hin, hfirst⟩ := rok_first h1
    have hsz := hfi.hd
    have hle := heads_le hsz
    have hmore : H.more := by
      rw [h7]
      rw [h6] at hhd hin hfirst
      rw [show ((n : Int)).toNat = n from Int.toNat_natCast n] at hfirst
      refine hd_more _ ?_ hfirst
      rw [ByteArray.size_extract, show min (x.p + n) x.s.size - x.p = n from by omega]; exact hhd
    have hem : m = hdM x.s x.p H := hm
    have q1 := hrd.ok.pe
    have q2 := hrd.e
    have q3 := hrd.L
    have q4 := hrd.s
    have q5 := hrd.b
    obtain ⟨k, hk, hlw⟩ := hrd.lw
    have hcalm := hlw.calm (by omega)
    generalize hRead x l f = R at h2 h3 q1 q2 q3 q4 q5 hcalm ⊢
    obtain ⟨v, y, lz⟩ := R
    obtain ⟨y1, y2, y3, y4, y5⟩ := y
    simp only at h2 h3 q1 q2 q3 q4 q5 hcalm ⊢
    have h12 : (x.p : Int) + 12 ≤ en := by rw [h5]; split <;> omega
    refine ⟨H, r, g, b, q, y5, k, hfi, hmore, by rw [h3]; exact h1, by rw [← hem]; exact h2, by rw [← hem]; exact hmw, by rw [q3, q4, q5, q2], by omega, by omega, hk, hcalm⟩
theorem head_cases (s : ByteArray) (p : Nat) (hp : p ≤ s.size) (hs : s.size ≤ 100000) (f : Int) : (∃ k a : Int, k ≠ 0 ∧ rRead20 s p = rBad20 k a) ∨ ∃ H r g b q en, HdGood s p f H r g b q en := by
  have hok : ∀ L, (⟨L, s, 0, s.size, p⟩ : Sr).ok := fun L => ⟨Nat.zero_le _, hp, Nat.le_refl _, by show s.size ≤ _; omega⟩
  have hD := fun L (l0 : Led) (hl : l0.ok) (hb : l0.br = false) (hm : l0.st + 3 < l0.mx) => head_eq ⟨L, s, 0, s.size, p⟩ l0 f (hok L) rfl hs hl hb hm
  obtain ⟨l1, hlo, hb1, hm1⟩ : ∃ l : Led, l.ok ∧ l.br = false ∧ l.st + 3 < l.mx := ⟨Led.new 0 0 0 1000, Led.new_ok _ _ _ _ (by decide) (by decide), rfl, by unfold Led.new; simp only; omega⟩
  rcases hD 0 l1 hlo hb1 hm1 with ⟨k, a, hk, h1⟩ | ⟨H, r, g, b, q, en, k, hfi, hmore, h1, h2, hmw, h3, h4, h5, hk, h6⟩
  · exact Or.inl ⟨k, a, hk, h1⟩
  · right
    refine ⟨H, r, g, b, q, en, ⟨h1, hfi, hmore, h4, h5, hmw, fun L X l0 hl hb hmx => ?_⟩⟩
    rcases hD L l0 hl hb hmx with ⟨k, a, hk, g1⟩ | ⟨H', r', g', b', q', en', k', -, -, g1, g2, -, g3, -, -, hk', g6⟩
    · have g1 : rRead20 s p = rBad20 k a := g1
      have h1 : rRead20 s p = rOk H r g b q p en := h1
      rw [h1] at g1
      exact (rbad_ne hk g1.symm).elim
    · have g1 : rRead20 s p = rOk H' r' g' b' q' p en' := g1
      have h1 : rRead20 s p = rOk H r g b q p en := h1
      rw [h1] at g1
      obtain ⟨⟨q1, q2, q3, q4, q5, q6, q7⟩, -, q8⟩ := rok_inj g1
      have em : hdM s p H' = hdM s p H := by unfold hdM; rw [← q1, ← q5, ← q6]
      have eat : H'.at (hdM s p H') p = H.at (hdM s p H) p := by rw [em]; unfold Hd.at; rw [← q1, ← q2, ← q3, ← q4, ← q5, ← q6, ← q7]
      have e8 : en' = en := by omega
      refine ⟨k', hk', fun w0 h0 => (hread_any X _ _ f w0 h0).mono fun e w' hpost => ?_⟩
      obtain ⟨he, hpr, hc⟩ := hpost
      have g2 : (hRead ⟨L, s, 0, s.size, p⟩ l0 f).1 = (H'.at (hdM s p H') p, zero3) := g2
      have g3 : (hRead ⟨L, s, 0, s.size, p⟩ l0 f).2.1 = ⟨L, s, 0, s.size, en'⟩ := g3
      rw [g3, g6, e8] at hpr
      refine ⟨?_, hpr, hc⟩
      rw [he, g2, eat]; rfl
end Go.Proofs.YtlfbaggcfaenlaaGreat

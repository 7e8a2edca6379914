/- dibrow: the reader of a head's pixels; what the rows do, refusals included: plain. -/
import Derived.Test.YtlfbaggcfaenlaaGreatK27
import Derived.Test.YtlfbaggcfaenlaaGreatK12
import Derived.Test.YtlfbaggcfaenlaaGreatK24
import Derived.Deep.CutRange
import Derived.WalkMore
import Derived.Deep.CutBlock
import Derived.Test.YtlfbaggcfaenlaaGreatK0
namespace Go.Proofs.YtlfbaggcfaenlaaGreat
open Go.RowKit
set_option linter.unusedVariables false
set_option linter.unusedSimpArgs false
def dpOk (n : Nat) : Prop := n = 1 ∨ n = 4 ∨ n = 8 ∨ n = 16 ∨ n = 24 ∨ n = 32
def pxFn (n : Nat) : Nat := if n = 16 ∨ n = 32 then 169 else if n = 24 then 170 else 171
def pxF (N n : Nat) : Value := .func (.func (pxFn n)) #[.pointer (some ⟨N, 0, none⟩)] #[]
set_option maxRecDepth 100000 in
set_option maxHeartbeats 4000000 in
theorem qreader_any (N : Nat) (K : QK) (σ : QS) (w : World) (h : QAt w N K σ) (hd : dpOk K.dp) : Calls Tryz.prog 100 #[.pointer (some ⟨N, 0, none⟩)] w fun e w' => e = .returned (pxF N K.dp) ∧ w = w' := by
  obtain ⟨n, hn⟩ : ∃ n, K.dp = n := ⟨_, rfl⟩
  have k6 := h.cell 6 (.int .i64 n) (by rw [← hn]; rfl)
  rw [hn] at hd ⊢
  clear h hn
  rcases hd with rfl | rfl | rfl | rfl | rfl | rfl
  all_goals
    go_enter Tryz.func100, Tryz.ntmps100
    go_wp2_with fail
    go_ret
    exact ⟨rfl, rfl⟩
def QK.pix (K : QK) (σ : QS) : QS × (C4 × (Int × Int)) := if K.dp = 16 ∨ K.dp = 32 then K.word σ else if K.dp = 24 then K.thr σ else K.num σ
def QK.okl (K : QK) (σ : QS) : Prop := σ.left % K.dp = 0
theorem qpix_any (N : Nat) (K : QK) (σ : QS) (w : World) (h : QAt w N K σ) (hd : dpOk K.dp) (hk : QOk K) (hp : K.dp ≤ 8 → K.hp = true) (hl : K.okl σ) : Calls Tryz.prog (pxFn K.dp) #[.pointer (some ⟨N, 0, none⟩)] w fun e w' =>
    e = .returned (pxv K.f (K.pix σ).2) ∧ QAt w' N K (K.pix σ).1 ∧ Chg (qS K) w w' := by
  unfold pxFn QK.pix
  by_cases h1 : K.dp = 16 ∨ K.dp = 32
  · rw [if_pos h1, if_pos h1]; exact qword_any N K σ w h h1 hk
  · rw [if_neg h1, if_neg h1]
    by_cases h2 : K.dp = 24
    · rw [if_pos h2, if_pos h2]; exact qthr_any N K σ w h
    · rw [if_neg h2, if_neg h2]
      have h3 : K.dp = 1 ∨ K.dp = 4 ∨ K.dp = 8 := by unfold dpOk at hd; omega
      have h8 := h.l8
      unfold QK.okl at hl
      exact qnum_any N K σ w h (by omega) (by omega) (by rcases h3 with e | e | e <;> rw [e] at hl ⊢ <;> omega) (hp (by omega))
theorem qnext_left (K : QK) (σ : QS) (n : Nat) : (K.next σ n).1.left = σ.left ∧ (K.next σ n).1.d = σ.d := by
  unfold QK.next; split <;> exact ⟨rfl, rfl⟩
theorem qpix_left (K : QK) (σ : QS) (hd : dpOk K.dp) (hl : K.okl σ) (h8 : σ.left ≤ 8) : K.okl (K.pix σ).1 ∧ (K.pix σ).1.d = σ.d := by
  unfold QK.okl QK.pix at *
  by_cases h1 : K.dp = 16 ∨ K.dp = 32
  · rw [if_pos h1]; unfold QK.word QK.wordB
    obtain ⟨a, b⟩ := qnext_left K σ K.wz
    split <;> exact ⟨by rw [a]; exact hl, b⟩
  · rw [if_neg h1]
    by_cases h2 : K.dp = 24
    · rw [if_pos h2]; unfold QK.thr QK.thrB
      obtain ⟨a, b⟩ := qnext_left K σ 3
      split <;> exact ⟨by rw [a]; exact hl, b⟩
    · rw [if_neg h2]
      have h3 : K.dp = 1 ∨ K.dp = 4 ∨ K.dp = 8 := by unfold dpOk at hd; omega
      have hb : (K.bits σ).1.left % K.dp = 0 ∧ (K.bits σ).1.d = σ.d := by
        unfold QK.bits
        obtain ⟨a, b⟩ := qnext_left K σ 1
        by_cases hz : σ.left = 0
        · rw [if_pos hz]
          split
          · exact ⟨by show (8 - K.dp) % K.dp = 0; rcases h3 with e | e | e <;> rw [e], rfl⟩
          · exact ⟨by rw [a]; exact hl, b⟩
        · rw [if_neg hz]
          exact ⟨by show (σ.left - K.dp) % K.dp = 0; rcases h3 with e | e | e <;> rw [e] at hl ⊢ <;> omega, rfl⟩
      unfold QK.num
      cases (K.bits σ).2 with
      | none => exact hb
      | some v => unfold QK.nmB; simp only; split <;> exact hb
def c4in (c : C4) : Prop := (0 ≤ c.1 ∧ c.1 < 256) ∧ (0 ≤ c.2.1 ∧ c.2.1 < 256) ∧ (0 ≤ c.2.2.1 ∧ c.2.2.1 < 256) ∧ (0 ≤ c.2.2.2 ∧ c.2.2.2 < 256)
theorem c4z_in : c4in c4z := ⟨⟨by decide, by decide⟩, ⟨by decide, by decide⟩, ⟨by decide, by decide⟩, ⟨by decide, by decide⟩⟩
theorem chI_bd (s b v n : Int) (hk : okM s b) (h0 : 0 ≤ n) (h1 : n < 256) : 0 ≤ chI s b v n ∧ chI s b v n < 256 := by
  unfold chI
  by_cases hb : b = 0
  · rw [if_pos hb]; exact ⟨h0, h1⟩
  · rw [if_neg hb]
    have hr : rightB s b = true := by rcases hk with ⟨-, h⟩ | h; exact absurd h hb; exact h
    have hb1 : 1 ≤ b := by unfold rightB at hr; rw [decide_eq_true_iff] at hr; omega
    obtain ⟨k, hk⟩ : ∃ k : Nat, b.toNat = k + 1 := ⟨b.toNat - 1, by omega⟩
    have hp : (2 : Int) ≤ 2 ^ b.toNat := by
      rw [hk, Int.pow_succ]
      have : (0 : Int) < 2 ^ k := Int.pow_pos (by decide)
      omega
    have hm0 := Int.emod_nonneg (v / 2 ^ s.toNat) (b := 2 ^ b.toNat) (by omega)
    have hm1 := Int.emod_lt_of_pos (v / 2 ^ s.toNat) (b := 2 ^ b.toNat) (by omega)
    have := mxI_bd (v / 2 ^ s.toNat % 2 ^ b.toNat) (2 ^ b.toNat - 1) hm0 (by omega) (by omega)
    omega
theorem qpix_col (K : QK) (σ : QS) (hk : QOk K) : c4in (K.pix σ).2.1 := by
  unfold QK.pix
  split
  · unfold QK.word QK.wordB
    split
    · exact ⟨chI_bd _ _ _ _ hk.k0 (by decide) (by decide), chI_bd _ _ _ _ hk.k1 (by decide) (by decide), chI_bd _ _ _ _ hk.k2 (by decide) (by decide), chI_bd _ _ _ _ hk.k3 (by decide) (by decide)⟩
    · exact c4z_in
  · split
    · unfold QK.thr QK.thrB
      split
      · exact ⟨byN_bd _ _, byN_bd _ _, byN_bd _ _, ⟨by show (0 : Int) ≤ 255; decide, by show (255 : Int) < 256; decide⟩⟩
      · exact c4z_in
    · unfold QK.num
      cases (K.bits σ).2 with
      | none => exact c4z_in
      | some v =>
        unfold QK.nmB
        simp only
        split
        · exact ⟨byN_bd _ _, byN_bd _ _, byN_bd _ _, byN_bd _ _⟩
        · exact c4z_in
def QK.putC (K : QK) (σ : QS) (x y : Nat) (c : C4) : QS × Bool := K.put σ x y c.1 c.2.1 c.2.2.1 c.2.2.2
theorem qputC_any (N : Nat) (K : QK) (σ : QS) (x y : Nat) (c : C4) (w : World) (h : QAt w N K σ) (hx : x < K.r.w) (hy : y < K.r.h) (hc : c4in c) : Calls Tryz.prog 101 #[.pointer (some ⟨K.R, 0, none⟩), .int .i64 x, .int .i64 y, .agg (c4v c).toArray] w fun e w' =>
    e = .returned (.bool (K.putC σ x y c).2) ∧ QAt w' N K (K.putC σ x y c).1 ∧ Chg (qS K) w w' := qput_any N K σ x y _ _ _ _ w h hx hy hc.1 hc.2.1 hc.2.2.1 hc.2.2.2
def QK.row (K : QK) (y : Nat) : Nat → Nat → QS → QS × (Int × Int)
  | 0, x, σ => (σ, (0, 0))
  | c + 1, x, σ => if (K.pix σ).2.2.1 = 0 then
      (if (K.putC (K.pix σ).1 x y (K.pix σ).2.1).2 = true then K.row y c (x + 1) (K.putC (K.pix σ).1 x y (K.pix σ).2.1).1 else ((K.putC (K.pix σ).1 x y (K.pix σ).2.1).1, K.ft (K.putC (K.pix σ).1 x y (K.pix σ).2.1).1.l (K.putC (K.pix σ).1 x y (K.pix σ).2.1).1.a))
    else ((K.pix σ).1, (K.pix σ).2.2)
def QS.whole (σ : QS) : QS := ⟨σ.now, 0, σ.a, σ.l, σ.d⟩
def QK.pad (K : QK) (n : Nat) (σ : QS) : QS × (Int × Int) := if (K.next σ.whole n).2.2 = true then ((K.next σ.whole n).1, (0, 0)) else ((K.next σ.whole n).1, K.ft (K.next σ.whole n).1.l (K.next σ.whole n).1.a)
def rowY (top : Bool) (H k : Nat) : Nat := if top = true then k else H - 1 - k
def QK.rows (K : QK) (W H : Nat) (top : Bool) (pd : Nat) : Nat → Nat → QS → QS × (Int × Int)
  | 0, k, σ => (σ, (0, 0))
  | m + 1, k, σ => if (K.row (rowY top H k) W 0 σ).2.1 = 0 then
      (if (K.pad pd (K.row (rowY top H k) W 0 σ).1).2.1 = 0 then K.rows W H top pd m (k + 1) (K.pad pd (K.row (rowY top H k) W 0 σ).1).1 else K.pad pd (K.row (rowY top H k) W 0 σ).1)
    else K.row (rowY top H k) W 0 σ
theorem qft_ne (K : QK) (l : Led) (a : Nat) : (K.ft l a).1 ≠ 0 := by unfold QK.ft; split <;> (intro h; cases h)
structure RleApart (X P R : Nat) (x : Sr) (p : Pal) (r : Ras) : Prop where
  rl : r.L = x.L
  b1 : X ≠ r.b.g
  b2 : P ≠ r.b.g
  b3 : p.B ≠ r.b.g
  b4 : p.b.g ≠ r.b.g
  c1 : P ≠ x.L
  c2 : p.B ≠ x.L
  c3 : p.b.g ≠ x.L
  d1 : P ≠ X
  d2 : p.B ≠ X
  d3 : p.b.g ≠ X
  e1 : R ≠ X
  e2 : r.B ≠ X
def qOf (l : List Value) (i : Nat) : Value := l.getD i undef
structure JNo (N : Nat) (K : JK) (b : Nat) : Prop where
  n : N ≠ b
  x : K.n.X ≠ b
  l : K.x.L ≠ b
  p : K.n.P ≠ b
  pb : K.p.B ≠ b
  pg : K.p.b.g ≠ b
  r : K.n.R ≠ b
  rb : K.r.B ≠ b
  rg : K.r.b.g ≠ b
theorem JAt.storedN {w w' : World} {N : Nat} {K : JK} {σ : JS} {b o : Nat} {vs : List Value} (h : JAt w N K σ) (hn : JNo N K b) (hst : Stored w b o vs w') : JAt w' N K σ := by
  have hc := Stored.chgS (S := fun k => k = b) hst (Chg.refl _ _) (Or.inl rfl)
  exact ⟨hc.obj h.pn hn.n, ⟨h.pr.src.chg hc hn.x, h.pr.led.chg hc hn.l⟩, h.pal.chg hc hn.p hn.pb hn.pg, h.ras.chg hc hn.r hn.rb hn.rg, h.ap, h.op, h.rw_, h.rh⟩
end Go.Proofs.YtlfbaggcfaenlaaGreat

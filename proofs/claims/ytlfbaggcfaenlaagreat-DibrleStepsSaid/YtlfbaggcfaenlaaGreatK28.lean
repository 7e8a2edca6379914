/- dibrle.Pack: arguments that are wrong; any arguments. -/
import Derived.Test.YtlfbaggcfaenlaaGreatK27
import Derived.Test.YtlfbaggcfaenlaaGreatK9
import Derived.Test.YtlfbaggcfaenlaaGreatK25
import Derived.Test.YtlfbaggcfaenlaaGreatK1
import Derived.Test.YtlfbaggcfaenlaaGreatK20
import Derived.Test.YtlfbaggcfaenlaaGreatK10
namespace Go.Proofs.YtlfbaggcfaenlaaGreat
open Go.RowKit
set_option linter.unusedVariables false
set_option linter.unusedSimpArgs false
def rleArg (n : Nat) (w d : Int) : Prop := w < 1 ∨ 16384 < w ∨ (d ≠ 4 ∧ d ≠ 8) ∨ n = 0 ∨ n % w.toNat ≠ 0
set_option maxRecDepth 100000 in
set_option maxHeartbeats 4000000 in
theorem epack_arg (a : Option Addr) (n cap : Nat) (wd d : Int) (w : World) (hn : n ≤ 100000000) (h : rleArg n wd d) : Calls Tryz.prog 61 #[.slice a n cap, .int .i64 wd, .int .i64 d] w (Packs w (ByteArray.empty, 1)) := by
  by_cases h1 : wd < 1
  · have D1 : decide (wd < 1) = true := by rw [decide_eq_true_iff]; exact h1
    clear h h1
    go_enter Tryz.func61, Tryz.ntmps61
    go_wp2_with ((with_reducible refine skip_g rfl ?_ ?_); rfl; intro _)
    go_ret2
    exact ⟨rfl, Below.refl _ _⟩
  have D1 : decide (wd < 1) = false := by rw [decide_eq_false_iff_not]; exact h1
  by_cases h2 : wd > 16384
  · have D2 : decide (wd > 16384) = true := by rw [decide_eq_true_iff]; exact h2
    clear h h1 h2
    go_enter Tryz.func61, Tryz.ntmps61
    go_wp2_with ((with_reducible refine skip_g rfl ?_ ?_); rfl; intro _)
    go_ret2
    exact ⟨rfl, Below.refl _ _⟩
  have D2 : decide (wd > 16384) = false := by rw [decide_eq_false_iff_not]; exact h2
  obtain ⟨W, rfl⟩ := Int.eq_ofNat_of_zero_le (show 0 ≤ wd by omega)
  by_cases h3 : d ≠ 4 ∧ d ≠ 8
  · have e4 : (d != 4) = true := by rw [bne_iff_ne]; exact h3.1
    have e8 : (d != 8) = true := by rw [bne_iff_ne]; exact h3.2
    clear h h1 h2 h3
    go_enter Tryz.func61, Tryz.ntmps61
    go_wp2_with ((with_reducible refine skip_g rfl ?_ ?_); rfl; intro _)
    go_ret2
    exact ⟨rfl, Below.refl _ _⟩
  have hd : d = 4 ∨ d = 8 := by omega
  by_cases h4 : n = 0
  · subst h4
    clear h h1 h2 h3
    rcases hd with rfl | rfl
    all_goals
      go_enter Tryz.func61, Tryz.ntmps61
      go_wp2_with ((with_reducible refine skip_g rfl ?_ ?_); rfl; intro _)
      go_ret2
      exact ⟨rfl, Below.refl _ _⟩
  have hm : n % W ≠ 0 := by
    unfold rleArg at h
    rcases h with h | h | h | h | h
    · omega
    · omega
    · exact absurd h h3
    · exact absurd h h4
    · simpa using h
  have D5 : ((n : Int) == 0) = false := by rw [beq_eq_false_iff_ne]; omega
  have hW0 : ¬ W = 0 := by omega
  have hm1 : n % W < W := Nat.mod_lt _ (by omega)
  have hmI : ((n : Int) % (W : Int) != 0) = true := by
    have e : ((n : Int) % (W : Int)) = ((n % W : Nat) : Int) := by rw [Int.natCast_emod]
    rw [e, bne_iff_ne]; omega
  obtain ⟨r, hr⟩ : ∃ r : Int, (n : Int) % (W : Int) = r := ⟨_, rfl⟩
  rw [hr] at hmI
  clear h h1 h2 h3 h4 hm hm1
  rcases hd with rfl | rfl
  all_goals
    go_enter Tryz.func61, Tryz.ntmps61
    go_wp2_with ((with_reducible refine skip_g rfl ?_ ?_); rfl; intro _)
    go_ret2
    exact ⟨rfl, Below.refl _ _⟩
/-- What Pack answers. -/
def rleI (l : List Int) (w d : Int) : ByteArray × Int := if w < 1 ∨ 16384 < w ∨ (d ≠ 4 ∧ d ≠ 8) ∨ l.length = 0 ∨ l.length % w.toNat ≠ 0 then (ByteArray.empty, 1) else if ∀ i, i < l.length → 0 ≤ l.getD i 0 ∧ l.getD i 0 < 2 ^ d.toNat then (strOf (encA l w.toNat d 0), 0) else (ByteArray.empty, 2)
theorem epack_any (l : List Int) (B o cap : Nat) (wd d : Int) (w : World) (hB : B < w.heap.size) (hn : l.length ≤ 100000000) (hcap : l.length ≤ cap) (hcm : cap ≤ maxLen) (hc : ∀ i, i < l.length → w.cell? ⟨B, o + i, none⟩ = some (.int .i64 (l.getD i 0))) :
    Calls Tryz.prog 61 #[.slice (some ⟨B, o, none⟩) l.length cap, .int .i64 wd, .int .i64 d] w (Packs w (rleI l wd d)) := by
  unfold rleI
  by_cases h : rleArg l.length wd d
  · have h' := h
    unfold rleArg at h'
    rw [if_pos h']; exact epack_arg _ _ _ _ _ w hn h
  · unfold rleArg at h
    rw [if_neg h]
    obtain ⟨W, rfl⟩ := Int.eq_ofNat_of_zero_le (show 0 ≤ wd by omega)
    have hm : l.length % W = 0 := by
      rcases Nat.eq_zero_or_pos (l.length % W) with e | e
      · exact e
      · exact absurd (Or.inr (Or.inr (Or.inr (Or.inr (by simp; omega))))) h
    have hl : l.length ≠ 0 := fun e => h (Or.inr (Or.inr (Or.inr (Or.inl e))))
    have hW : 1 ≤ W := by omega
    have e := Nat.div_add_mod l.length W
    rw [hm, Nat.add_zero, Nat.mul_comm] at e
    refine epack_go l B o cap W (l.length / W) d w hB hn hcap hcm hW (by omega) (by omega) e.symm ?_ hc
    rcases Nat.eq_zero_or_pos (l.length / W) with e0 | e0
    · rw [e0, Nat.zero_mul] at e; omega
    · exact e0
end Go.Proofs.YtlfbaggcfaenlaaGreat

namespace Go.Proofs.YtlfbaggcfaenlaaGreat
open Go.RowKit
set_option linter.unusedVariables false
set_option linter.unusedSimpArgs false
def Yes22 (w : World) (e : Ending) (w' : World) : Prop := e = .returned (.bool true) ∧ Below w.heap.size w w'
theorem rle_ex : rleI [5, 5, 5] 3 8 = (⟨#[3, 5, 0, 0, 0, 1]⟩, 0) := by decide +kernel
theorem epack_ex (w : World) (T : TypeId) : Calls Tryz.prog 61 #[.slice (some ⟨w.heap.size, 0, none⟩) 3 3, .int .i64 3, .int .i64 8] (w.alloc (.cells #[.int .i64 5, .int .i64 5, .int .i64 5] T)) fun e w' => e = .returned (.tuple #[.string ⟨#[3, 5, 0, 0, 0, 1]⟩, .int .i64 0]) ∧ Below w.heap.size w w' :=
  (epack_any [5, 5, 5] w.heap.size 0 3 3 8 _ (by simp) (by decide) (by decide) (by decide) (by
    intro i hi
    rcases (show i = 0 ∨ i = 1 ∨ i = 2 by simp at hi; omega) with rfl | rfl | rfl <;> simp [go_sem])).mono fun e w' hh => by
      obtain ⟨h1, h2⟩ := hh
      rw [rle_ex] at h1
      exact ⟨h1, bthen h2 ((Below.refl _ _).alloc (Nat.le_refl _) _) (by simp)⟩
theorem awake22 (w : World) : Calls Tryz.prog 15 #[] w (Yes22 w) := by
  go_enter Tryz.func15, Tryz.ntmps15
  go_wp2_with (go_at_call 61; (with_reducible refine (epack_ex _ _).mono ?_); rintro e w1 ⟨rfl, hb1⟩)
  go_ret
  exact ⟨rfl, hb1⟩
/-- A pixel's number, of a byte. -/
def entR (b d : Int) (i : Nat) : Int := if d = 8 then b else if i % 2 = 0 then b / 16 else b % 16
end Go.Proofs.YtlfbaggcfaenlaaGreat

namespace Go.Proofs.YtlfbaggcfaenlaaGreat
open Go.RowKit
set_option linter.unusedVariables false
set_option linter.unusedSimpArgs false
/-- A pixel of an entry. -/
def JK.putE (K : JK) (σ : JS) (e : Int) : JS × (Int × Int) := K.put σ (byN (K.p.ent e.toNat) 0) (byN (K.p.ent e.toNat) 1) (byN (K.p.ent e.toNat) 2) (byN (K.p.ent e.toNat) 3)
/-- The pixels of a byte, from the i-th one on. -/
def JK.byteL (K : JK) (v pl : Int) : Nat → Nat → JS → JS × (Int × Int)
  | 0, i, σ => (σ, (0, 0))
  | c + 1, i, σ => if K.p.has (entR v K.n.dp i) = false then (σ, (2, pl)) else
      if (K.putE σ (entR v K.n.dp i)).2.1 = 0 then K.byteL v pl c (i + 1) (K.putE σ (entR v K.n.dp i)).1 else K.putE σ (entR v K.n.dp i)
/-- Pixels of entries, from the i-th one on. -/
def JK.putsL (K : JK) (es : Nat → Int) : Nat → Nat → JS → JS × (Int × Int)
  | 0, i, σ => (σ, (0, 0))
  | c + 1, i, σ => if (K.putE σ (es i)).2.1 = 0 then K.putsL es c (i + 1) (K.putE σ (es i)).1 else K.putE σ (es i)
/-- Two entries in turn. -/
def JK.runL (K : JK) (e0 e1 : Int) : Nat → Nat → JS → JS × (Int × Int) := K.putsL fun i => if i % 2 = 0 then e0 else e1
def JK.room (K : JK) (σ : JS) (n : Nat) : Prop := σ.y < K.n.H ∧ σ.x + n ≤ K.n.W
instance (K : JK) (σ : JS) (n : Nat) : Decidable (K.room σ n) := by unfold JK.room; infer_instance
def JK.run (K : JK) (σ : JS) (n : Nat) (v a : Int) : JS × (Int × Int) :=
  if ¬ K.room σ n then (σ, (2, a)) else
  if K.p.has (entR v K.n.dp 0) = false ∨ K.p.has (entR v K.n.dp (if n = 1 then 0 else 1)) = false then (σ, (2, a + 1)) else
  K.runL (entR v K.n.dp 0) (entR v K.n.dp (if n = 1 then 0 else 1)) n 0 σ
def JK.each (K : JK) : Nat := (8 / K.n.dp).toNat
/-- So many bytes of pixels as they are, of which so many are left. -/
def JK.plainL (K : JK) : Nat → Nat → JS → JS × (Int × Int)
  | 0, c, σ => (σ, (0, 0))
  | m + 1, c, σ => if (K.next σ 1).2.2 = false then ((K.next σ 1).1, K.ft (K.next σ 1).1.l (K.next σ 1).1.a) else
      if (K.byteL (byN K.x.s σ.a) σ.a (min K.each c) 0 (K.next σ 1).1).2.1 = 0 then K.plainL m (c - K.each) (K.byteL (byN K.x.s σ.a) σ.a (min K.each c) 0 (K.next σ 1).1).1 else K.byteL (byN K.x.s σ.a) σ.a (min K.each c) 0 (K.next σ 1).1
def JK.bytes (K : JK) (n : Nat) : Nat := (n + K.each - 1) / K.each
def JK.plain (K : JK) (σ : JS) (n : Nat) (a : Int) : JS × (Int × Int) :=
  if ¬ K.room σ n then (σ, (2, a)) else
  if (K.plainL (K.bytes n) n σ).2.1 = 0 then
    (if K.bytes n % 2 = 1 then (if (K.next (K.plainL (K.bytes n) n σ).1 1).2.2 = false then ((K.next (K.plainL (K.bytes n) n σ).1 1).1, K.ft (K.next (K.plainL (K.bytes n) n σ).1 1).1.l (K.next (K.plainL (K.bytes n) n σ).1 1).1.a) else ((K.next (K.plainL (K.bytes n) n σ).1 1).1, (0, 0))) else ((K.plainL (K.bytes n) n σ).1, (0, 0)))
  else K.plainL (K.bytes n) n σ
/-- The place moved. -/
def JK.move (K : JK) (σ : JS) (x y : Nat) (a : Int) : JS × (Int × Int) := (⟨x, y, σ.a, σ.l, σ.d⟩, K.ins ⟨x, y, σ.a, σ.l, σ.d⟩ a)
def JK.leap (K : JK) (σ : JS) (a : Int) : JS × (Int × Int) :=
  if (K.next σ 2).2.2 = false then ((K.next σ 2).1, K.ft (K.next σ 2).1.l (K.next σ 2).1.a) else
  K.move (K.next σ 2).1 (σ.x + (byN K.x.s σ.a).toNat) (σ.y + (byN K.x.s (σ.a + 1)).toNat) a
/-- One command of two bytes n and v, that stood at a. -/
def JK.cmd (K : JK) (σ : JS) (n v a : Int) : JS × (Int × Int) :=
  if 0 < n then K.run σ n.toNat v a else if v = 0 then K.move σ 0 (σ.y + 1) a else if v = 2 then K.leap σ a else K.plain σ v.toNat a
def JK.read (K : JK) : Nat → JS → JS × (Int × Int)
  | 0, σ => (σ, (0, 0))
  | f + 1, σ => if (K.next σ 2).2.2 = false then ((K.next σ 2).1, K.ft (K.next σ 2).1.l (K.next σ 2).1.a) else
      if byN K.x.s σ.a = 0 ∧ byN K.x.s (σ.a + 1) = 1 then ((K.next σ 2).1, (0, 0)) else
      if (K.cmd (K.next σ 2).1 (byN K.x.s σ.a) (byN K.x.s (σ.a + 1)) σ.a).2.1 = 0 then K.read f (K.cmd (K.next σ 2).1 (byN K.x.s σ.a) (byN K.x.s (σ.a + 1)) σ.a).1 else
      K.cmd (K.next σ 2).1 (byN K.x.s σ.a) (byN K.x.s (σ.a + 1)) σ.a
/-! ### what it costs -/
/-- So many steps were done; or so many, and then the next one was refused. -/
def LW (l l' : Led) (k : Nat) : Prop := l' = { l with st := l.st + k } ∨ (l' = ({ l with st := l.st + k } : Led).refuse 3 1 ∧ l.st + k = l.mx)
theorem LW.refl (l : Led) : LW l l 0 := Or.inl (by simp)
theorem LW.one {l : Led} (hb : l.br = false) (ho : l.ok) : ((l.work 1).2 = true ∧ LW l (l.work 1).1 1 ∧ (l.work 1).1.br = false) ∨ ((l.work 1).2 = false ∧ LW l (l.work 1).1 0 ∧ (l.work 1).1.br = true) := by
  have h1 := ho.s1
  unfold Led.work
  rw [if_neg (by rw [hb]; decide)]
  by_cases h : (1 : Int) < 0 ∨ l.mx - l.st < 1
  · rw [if_pos h]; exact Or.inr ⟨rfl, Or.inr ⟨by simp, by omega⟩, rfl⟩
  · rw [if_neg h]; exact Or.inl ⟨rfl, Or.inl (by simp), hb⟩
theorem LW.trans {l l1 l2 : Led} {j k : Nat} (h : LW l l1 j) (hb : l1.br = false) (g : LW l1 l2 k) : LW l l2 (j + k) := by
  rcases h with h | ⟨h, h'⟩
  · subst h
    rcases g with g | ⟨g, g'⟩
    · left; rw [g]; simp; omega
    · right
      refine ⟨?_, by show l.st + ((j + k : Nat) : Int) = l.mx; have : l.st + j + k = l.mx := g'; omega⟩
      rw [g]; unfold Led.refuse; simp; omega
  · rw [h] at hb; cases hb
theorem LW.ok {l l' : Led} {k : Nat} (h : LW l l' k) (ho : l.ok) (hk : l.st + k ≤ l.mx) : l'.ok := by
  obtain ⟨a, b, c, d, e, f⟩ := ho
  rcases h with h | ⟨h, h'⟩
  · subst h; exact ⟨a, b, c, by show 0 ≤ l.st + k; omega, hk, f⟩
  · subst h; exact ⟨a, b, c, by show 0 ≤ l.st + k; omega, hk, f⟩
/-- How far the painter has come. -/
def JK.pot (K : JK) (σ : JS) : Nat := min (σ.y * K.n.W + σ.x) (K.n.H * K.n.W)
/-- What a call may cost, where the ledger was whole. -/
structure Cost (K : JK) (σ : JS) (q : JS × (Int × Int)) (c : Nat) : Prop where
  ok : q.1.l.ok
  lw : ∃ k, LW σ.l q.1.l k ∧ k + σ.a + K.pot σ ≤ q.1.a + K.pot q.1 + c
  a0 : σ.a ≤ q.1.a
  a1 : q.1.a ≤ K.x.e
  br : q.1.l.br = true → q.2.1 = 4 ∧ 0 ≤ q.2.2 ∧ q.2.2 ≤ K.x.e
  len : q.1.d.length = σ.d.length
theorem Cost.trans {K : JK} {σ τ : JS} {t : Int × Int} {q : JS × (Int × Int)} {c c' : Nat} (h : Cost K σ (τ, t) c) (hb : τ.l.br = false) (g : Cost K τ q c') : Cost K σ q (c + c') := by
  obtain ⟨k1, l1, b1⟩ := h.lw
  obtain ⟨k2, l2, b2⟩ := g.lw
  have := h.a0
  have := g.a0
  simp only at b1 b2 l1
  exact ⟨g.ok, ⟨k1 + k2, l1.trans hb l2, by omega⟩, by simp only at *; omega, g.a1, g.br, g.len.trans h.len⟩
theorem Cost.mono {K : JK} {σ : JS} {q : JS × (Int × Int)} {c c' : Nat} (h : Cost K σ q c) (hc : c ≤ c') : Cost K σ q c' := by
  obtain ⟨k1, l1, b1⟩ := h.lw
  exact ⟨h.ok, ⟨k1, l1, by omega⟩, h.a0, h.a1, h.br, h.len⟩
theorem Cost.stay {K : JK} {σ : JS} (ho : σ.l.ok) (hb : σ.l.br = false) (ha : σ.a ≤ K.x.e) (t : Int × Int) : Cost K σ (σ, t) 0 :=
  ⟨ho, ⟨0, LW.refl _, by simp only; omega⟩, Nat.le_refl _, ha, (fun h => by rw [hb] at h; cases h), rfl⟩
/-- A pixel. -/
theorem put_cost {K : JK} {σ : JS} (ho : σ.l.ok) (hb : σ.l.br = false) (ha : σ.a ≤ K.x.e) (hx : σ.x < K.n.W) (hy : σ.y < K.n.H) (c0 c1 c2 c3 : Int) :
    Cost K σ (K.put σ c0 c1 c2 c3) 0 ∧ ((K.put σ c0 c1 c2 c3).2.1 = 0 → (K.put σ c0 c1 c2 c3).2 = (0, 0) ∧ (K.put σ c0 c1 c2 c3).1.l.br = false ∧ (K.put σ c0 c1 c2 c3).1.x = σ.x + 1 ∧ (K.put σ c0 c1 c2 c3).1.y = σ.y ∧ (K.put σ c0 c1 c2 c3).1.a = σ.a ∧ (K.put σ c0 c1 c2 c3).1.d = put4 σ.d (4 * ((K.n.H - 1 - σ.y) * K.n.W + σ.x)) c0 c1 c2 c3) ∧
    ((K.put σ c0 c1 c2 c3).2.1 ≠ 0 → (K.put σ c0 c1 c2 c3).1.l.br = true) := by
  have hok := Led.work_ok ho 1
  have hm : (σ.y + 1) * K.n.W ≤ K.n.H * K.n.W := Nat.mul_le_mul_right _ (by omega)
  rw [Nat.add_mul, Nat.one_mul] at hm
  rcases LW.one hb ho with ⟨h1, h2, h3⟩ | ⟨h1, h2, h3⟩
  · have e : K.put σ c0 c1 c2 c3 = (⟨σ.x + 1, σ.y, σ.a, (σ.l.work 1).1, put4 σ.d (4 * ((K.n.H - 1 - σ.y) * K.n.W + σ.x)) c0 c1 c2 c3⟩, (0, 0)) := by unfold JK.put; rw [if_pos h1]
    rw [e]
    refine ⟨⟨hok, ⟨1, h2, ?_⟩, Nat.le_refl _, ha, fun h => ?_, put4_len _ _ _ _ _ _⟩, fun _ => ⟨rfl, h3, rfl, rfl, rfl, rfl⟩, fun h => absurd rfl h⟩
    · unfold JK.pot; simp only; omega
    · rw [h3] at h; cases h
  · have e : K.put σ c0 c1 c2 c3 = (⟨σ.x, σ.y, σ.a, (σ.l.work 1).1, σ.d⟩, (4, (σ.a : Int))) := by unfold JK.put; rw [if_neg (by rw [h1]; decide)]; unfold JK.ft; rw [if_pos h3]
    rw [e]
    refine ⟨⟨hok, ⟨0, h2, ?_⟩, Nat.le_refl _, ha, fun _ => ⟨rfl, by simp only; omega, by simp only; omega⟩, rfl⟩, fun h => ?_, fun _ => h3⟩
    · unfold JK.pot; simp only; omega
    · cases h
/-- Bytes that are read. -/
theorem next_cost {K : JK} {σ : JS} (ho : σ.l.ok) (hb : σ.l.br = false) (ha : σ.a ≤ K.x.e) (n : Nat) :
    ((K.next σ n).2.2 = true ∧ (K.next σ n).1 = ⟨σ.x, σ.y, σ.a + n, (K.next σ n).1.l, σ.d⟩ ∧ (K.next σ n).1.l.br = false ∧ σ.a + n ≤ K.x.e ∧ (K.next σ n).1.l.ok ∧ LW σ.l (K.next σ n).1.l 1) ∨
    ((K.next σ n).2.2 = false ∧ Cost K σ ((K.next σ n).1, K.ft (K.next σ n).1.l (K.next σ n).1.a) 1 ∧ ((K.next σ n).1.l.br = false → K.x.e < σ.a + n ∧ K.ft (K.next σ n).1.l (K.next σ n).1.a = (1, (K.x.e : Int)))) := by
  have hok := Led.work_ok ho 1
  rcases LW.one hb ho with ⟨h1, h2, h3⟩ | ⟨h1, h2, h3⟩
  · by_cases hn : n ≤ K.x.e - σ.a
    · have e : K.next σ n = (⟨σ.x, σ.y, σ.a + n, (σ.l.work 1).1, σ.d⟩, (K.x.s.extract σ.a (σ.a + n), true)) := by unfold JK.next; rw [if_pos ⟨h1, hn⟩]
      rw [e]
      exact Or.inl ⟨rfl, rfl, h3, by omega, hok, h2⟩
    · have e : K.next σ n = (⟨σ.x, σ.y, σ.a, (σ.l.work 1).1, σ.d⟩, (ByteArray.empty, false)) := by unfold JK.next; rw [if_neg (fun h => hn h.2)]
      rw [e]
      refine Or.inr ⟨rfl, ⟨hok, ⟨1, h2, by unfold JK.pot; simp only; omega⟩, Nat.le_refl _, ha, fun h => ?_, rfl⟩, fun _ => ⟨by omega, ?_⟩⟩
      · rw [show ((⟨σ.x, σ.y, σ.a, (σ.l.work 1).1, σ.d⟩ : JS).l.br = false) from h3] at h; cases h
      · unfold JK.ft; rw [if_neg (by rw [h3]; decide)]
  · have e : K.next σ n = (⟨σ.x, σ.y, σ.a, (σ.l.work 1).1, σ.d⟩, (ByteArray.empty, false)) := by unfold JK.next; rw [if_neg (fun h => by rw [h1] at h; cases h.1)]
    rw [e]
    have ef : K.ft (σ.l.work 1).1 σ.a = (4, (σ.a : Int)) := by unfold JK.ft; rw [if_pos h3]
    refine Or.inr ⟨rfl, ⟨hok, ⟨0, h2, by unfold JK.pot; simp only; omega⟩, Nat.le_refl _, ha, fun _ => ?_, rfl⟩, fun h => ?_⟩
    · show (K.ft (σ.l.work 1).1 σ.a).1 = 4 ∧ 0 ≤ (K.ft (σ.l.work 1).1 σ.a).2 ∧ (K.ft (σ.l.work 1).1 σ.a).2 ≤ K.x.e
      rw [ef]; exact ⟨rfl, by simp only; omega, by simp only; omega⟩
    · rw [show ((⟨σ.x, σ.y, σ.a, (σ.l.work 1).1, σ.d⟩ : JS).l.br = true) from h3] at h; cases h
theorem jtake2_any (N : Nat) (K : JK) (σ : JS) (w : World) (h : JAt w N K σ) : Calls Tryz.prog 66 #[.pointer (some ⟨K.n.X, 0, none⟩), .int .i64 2] w fun e w' =>
    e = .returned (.tuple #[.string (K.next σ 2).2.1, .bool (K.next σ 2).2.2]) ∧ JAt w' N K (K.next σ 2).1 ∧ Chg (jS N K) w w' := jtake_any N K σ 2 w h
theorem jskip1_any (N : Nat) (K : JK) (σ : JS) (w : World) (h : JAt w N K σ) : Calls Tryz.prog 70 #[.pointer (some ⟨K.n.X, 0, none⟩), .int .i64 1] w fun e w' =>
    e = .returned (.bool (K.next σ 1).2.2) ∧ JAt w' N K (K.next σ 1).1 ∧ Chg (jS N K) w w' := jskip_any N K σ 1 w h
theorem jnext_str {w : World} {N : Nat} {K : JK} {σ : JS} (h : JAt w N K σ) (n : Nat) (hk : (K.next σ n).2.2 = true) : (K.next σ n).2.1.size = n ∧ (∀ k, k < n → byN (K.next σ n).2.1 k = byN K.x.s (σ.a + k)) ∧ (K.next σ n).1.x = σ.x ∧ (K.next σ n).1.y = σ.y ∧ (K.next σ n).1.a = σ.a + n ∧ (K.next σ n).1.d = σ.d := by
  have hes : K.x.e ≤ K.x.s.size := h.pr.src.ok.es
  have hpe : σ.a ≤ K.x.e := h.pr.src.ok.pe
  unfold JK.next at hk ⊢
  by_cases hc : (σ.l.work 1).2 = true ∧ n ≤ K.x.e - σ.a
  · rw [if_pos hc]
    have h2 := hc.2
    refine ⟨by show (K.x.s.extract σ.a (σ.a + n)).size = n; rw [ByteArray.size_extract]; omega, fun k hk2 => ?_, rfl, rfl, rfl, rfl⟩
    show byN (K.x.s.extract σ.a (σ.a + n)) k = _
    exact byN_ext K.x.s σ.a (σ.a + n) k (by omega) (by omega)
  · rw [if_neg hc] at hk; cases hk
theorem not_jS {N : Nat} {K : JK} {d b : Nat} (h : JLt N K d) (hb : d ≤ b) : ¬ jS N K b := by
  obtain ⟨l1, l2, l3, l4, l5, l6, l7, l8, l9⟩ := h
  unfold jS; omega
theorem each_is {K : JK} (hd : K.n.dp = 8 ∨ K.n.dp = 4) : (K.n.dp = 8 ∧ K.each = 1) ∨ (K.n.dp = 4 ∧ K.each = 2) := by
  unfold JK.each
  rcases hd with h | h
  · left; rw [h]; exact ⟨rfl, by simp⟩
  · right; rw [h]; exact ⟨rfl, by simp⟩
theorem ft_ne (K : JK) (l : Led) (a : Nat) : (K.ft l a).1 ≠ 0 := by unfold JK.ft; split <;> (intro h; cases h)
theorem put_xy {K : JK} {σ : JS} {c0 c1 c2 c3 : Int} (h : (K.put σ c0 c1 c2 c3).2.1 = 0) : (K.put σ c0 c1 c2 c3).1.x = σ.x + 1 ∧ (K.put σ c0 c1 c2 c3).1.y = σ.y := by
  unfold JK.put at h ⊢
  by_cases hk : (σ.l.work 1).2 = true
  · rw [if_pos hk]; exact ⟨rfl, rfl⟩
  · rw [if_neg hk] at h; exact absurd h (ft_ne _ _ _)
end Go.Proofs.YtlfbaggcfaenlaaGreat

namespace Go.Proofs.YtlfbaggcfaenlaaGreat
open Go.RowKit
set_option linter.unusedVariables false
set_option linter.unusedSimpArgs false
def entC (s : ByteArray) : List Value := [.int .u8 (byN s 2), .int .u8 (byN s 1), .int .u8 (byN s 0), .int .u8 255]
end Go.Proofs.YtlfbaggcfaenlaaGreat

namespace Go.Proofs.YtlfbaggcfaenlaaGreat
open Go.RowKit
set_option linter.unusedVariables false
set_option linter.unusedSimpArgs false
/-- The first entries of a table. -/
def colsL (s : ByteArray) (k : Nat) : Nat → List Value
  | 0 => []
  | m + 1 => colsL s k m ++ entC (s.extract (m * k) s.size)
end Go.Proofs.YtlfbaggcfaenlaaGreat

namespace Go.Proofs.YtlfbaggcfaenlaaGreat
open Go.RowKit
set_option linter.unusedVariables false
set_option linter.unusedSimpArgs false
/-- Append of some elements of one cell. -/
theorem appK {P : Program} {ops : Array Oper} {rest : List Oper} {o : Oper} {a : Act} {Q : Exit → Act → World → Prop} (hgd : o.guard = none) (s x : Operand) (t : TypeId)
    (ho : o.op = .call { callee := .builtin .append, args := #[s, x], argTypes := #[t, t] })
    (base : Nat) (e : TypeId) (z : Value) (bytes : Nat) (ht : P.underlying t = some (.slice e)) (hi : (P.info? e).map (fun i => (i.zero, i.size, i.bytes)) = some (some z, 1, bytes)) (hz1 : z.cells.size = 1)
    (v : Value) (n m : Nat) (xs : List Value) (hs : a.eval s = v) {wr : World} (hown : wr.ownsRow base e 1 v n xs) (C : List Value) (hC : ∀ u ∈ C, u.oneCell' = true) (hCl : C.length = m * 1) (T : TypeId)
    (hx : a.eval x = .slice (some ⟨wr.heap.size, 0, none⟩) m m) (hn : (n + m) * bytes ≤ 140737488355328) (hn2 : n + m ≤ maxLen) (hbase : base ≤ wr.heap.size)
    (h : ∀ v' w', w'.ownsRow base e 1 v' (n + m) (xs ++ C) → (∀ W, Below base W wr → Below base W w') → base ≤ w'.heap.size → wpList P ops Q rest (a.put o.dst v') w') :
    wpList P ops Q (o :: rest) a (wr.alloc (.cells C.toArray T)) := by
  obtain ⟨i, i1, i2, i3, i4⟩ := info_parts hi
  have hz : wr.heap.size < (wr.alloc (.cells C.toArray T)).heap.size := by simp
  refine wpList_append_own _ hgd s x t ho base e i z 1 bytes ht i1 i2 i3 i4 hz1 (by decide) v n xs hs (hown.alloc _) ⟨wr.heap.size, 0, none⟩ m m C hx hCl ?_ hC hn2 hn (by omega) ?_
  · intro j u hj
    exact news_obj (obj1_new wr C.toArray T) j u hj
  · intro v' w' hown' hgrow _
    refine h v' w' hown' (fun W hB => ?_) (Nat.le_trans (by omega) hgrow.size)
    refine (hB.alloc hbase _).grown hgrow (by omega) ?_
    intro k hk
    obtain ⟨_, h2⟩ := hown
    rcases h2 with ⟨rfl, _⟩ | ⟨g, cap, cur, rfl, hg, _⟩
    · simp [Value.ownBlock] at hk
    · simp [Value.ownBlock] at hk; omega
theorem owns_blockK (w : World) (L : List Int) (T : TypeId) (n : Nat) (hn : L.length = n) (hm : n ≤ maxLen) : (w.alloc (.cells ((L.map (Value.int .u8)).toArray) T)).ownsRow w.heap.size T 1 (.slice (some ⟨w.heap.size, 0, none⟩) n n) n (L.map (.int .u8)) := by
  subst hn
  exact ⟨by simp, Or.inr ⟨w.heap.size, L.length, (L.map (Value.int .u8)).toArray, rfl, Nat.le_refl _, heap_alloc_new w _, Nat.le_refl _, hm, by simp, by simp [List.take_of_length_le]⟩⟩
def tabI : Nat → List Int
  | 0 => []
  | m + 1 => tabI m ++ [(m : Int), 0, 0, 0]
theorem tabI_len (m : Nat) : (tabI m).length = 4 * m := by
  induction m with
  | zero => rfl
  | succ m ih => rw [tabI, List.length_append, ih]; simp; omega
def head8 (W H : Nat) : List Int := [40, 0, 0, 0, (W : Int), 0, 0, 0, (H : Int), 0, 0, 0, 1, 0, 8, 0, 1, 0, 0, 0, 0, 0, 0, 0, 0, 0, 0, 0, 0, 0, 0, 0, 0, 0, 0, 0, 0, 0, 0, 0]
theorem mk40_8 (w : World) : (Instr.makeSlice 61 (.int .i64 40) (.int .i64 40)).run Tryz.prog w = .ok (.slice (some ⟨w.heap.size, 0, none⟩) 40 40) (w.alloc (.cells #[.int .u8 0, .int .u8 0, .int .u8 0, .int .u8 0, .int .u8 0, .int .u8 0, .int .u8 0, .int .u8 0, .int .u8 0, .int .u8 0, .int .u8 0, .int .u8 0, .int .u8 0, .int .u8 0, .int .u8 0, .int .u8 0, .int .u8 0, .int .u8 0, .int .u8 0, .int .u8 0, .int .u8 0, .int .u8 0, .int .u8 0, .int .u8 0, .int .u8 0, .int .u8 0, .int .u8 0, .int .u8 0, .int .u8 0, .int .u8 0, .int .u8 0, .int .u8 0, .int .u8 0, .int .u8 0, .int .u8 0, .int .u8 0, .int .u8 0, .int .u8 0, .int .u8 0, .int .u8 0] 5)) := by kernel_rfl
set_option maxRecDepth 100000 in
set_option maxHeartbeats 8000000 in
theorem lhead8_any (W H : Nat) (w : World) (hW : W ≤ 40) (hH : H ≤ 40) : Calls Tryz.prog 14 #[.int .i64 W, .int .i64 H, .int .i64 8] w fun e w' => e = .returned (.string (strOf (head8 W H ++ tabI 256))) ∧ Below w.heap.size w w' := by
  have HM := @mk40_8
  have HPW := Lib.hid (fun w0 => (power_any 8 w0 (by decide) (by decide)).mono (R' := fun e w' => e = .returned (.int .i64 256) ∧ w' = w0) fun e w' hh => ⟨hh.1.trans (by rfl), hh.2.symm⟩)
  have e1 : IntKind.u8.wrap (W : Int) = (W : Int) := by show (W : Int) % 256 = W; omega
  have e2 : IntKind.u8.wrap (H : Int) = (H : Int) := by show (H : Int) % 256 = H; omega
  have hO := owns_blockK w (head8 W H) 5 40 rfl (by decide)
  go_enter Tryz.func14, Tryz.ntmps14
  go_wp2_with ((go_at_call 40; (with_reducible refine (HPW.out _).mono ?_); rintro e w5 ⟨rfl, rfl⟩))
  go_loopw [7, 8, 34] (fun v q8 c wr => ∃ i : Nat, i ≤ 256 ∧ c = .int .i64 i ∧ wr.ownsRow w.heap.size 5 1 v (40 + 4 * i) ((head8 W H ++ tabI i).map (.int .u8)) ∧ Below w.heap.size w wr) (fun _ _ c _ => 256 - (intOf c).toNat)
  case atStart => exact ⟨0, by omega, by first | rfl | simp, by rw [show head8 W H ++ tabI 0 = head8 W H from List.append_nil _]; exact hO, (Below.refl _ _).alloc (Nat.le_refl _) _⟩
  case round =>
    obtain ⟨i, hi, rfl, hown, hb⟩ := hrel
    have HO := Lib.hid hown
    have HB := Lib.hid hb
    have hsz := hb.size
    clear hown hb hO HM
    by_cases hlt : i < 256
    rotate_left
    · obtain rfl : i = 256 := by omega
      have hcv := owns_string (P := Tryz.prog) HO.out 61 9 5 Tryz.underlying61 Tryz.underlying5 Tryz.underlying9
      go_wp2_with fail
      go_ret
      exact ⟨rfl, HB.out⟩
    · have e3 : IntKind.u8.wrap (i : Int) = (i : Int) := by show (i : Int) % 256 = i; omega
      go_wp2_with (at_builtin; refine appK rfl (.tmp 37) (.tmp 40) 61 rfl w.heap.size 5 (.int .u8 0) 1 Tryz.underlying61 (by kernel_rfl) rfl _ _ 4 _ rfl HO.out [.int .u8 i, .int .u8 0, .int .u8 0, .int .u8 0] (by intro u hu; simp at hu; rcases hu with rfl | rfl <;> rfl) rfl _ rfl (by omega) (by unfold maxLen; omega) hsz ?_; intro v' w1 hown1 hB1 hz1; have O1 := Lib.hid hown1; have B1 := Lib.hid hB1; clear hown1 hB1)
      go_roundw
      case rel => exact ⟨i + 1, by omega, by go_num, owns_eq O1.out (by omega) (by rw [tabI]; simp), B1.out w HB.out⟩
      case measure => simp [intOf]; omega
end Go.Proofs.YtlfbaggcfaenlaaGreat

namespace Go.Proofs.YtlfbaggcfaenlaaGreat
open Go.RowKit
theorem mod_succ (x : Int) (j : Nat) : x % 2 ^ (j + 1) = x % 2 ^ j + 2 ^ j * (x / 2 ^ j % 2) := by
  have h1 := Int.mul_ediv_add_emod x (2 ^ j)
  have h2 := Int.mul_ediv_add_emod (x / 2 ^ j) 2
  have h3 := Int.mul_ediv_add_emod x (2 ^ (j + 1))
  rw [div_pow_succ, pow_succ'] at h3
  rw [pow_succ']
  have e : 2 ^ j * (x / 2 ^ j) = 2 * 2 ^ j * (x / 2 ^ j / 2) + 2 ^ j * (x / 2 ^ j % 2) := by
    conv => lhs; rw [← h2]
    rw [Int.mul_add, ← Int.mul_assoc, Int.mul_comm (2 ^ j) 2]
  omega
theorem div_div_pow (x : Int) (a b : Nat) : x / 2 ^ a / 2 ^ b = x / 2 ^ (a + b) := by rw [Int.ediv_ediv_of_nonneg (Int.le_of_lt (pow_pos' _)), Int.pow_add]
theorem bitB_iff (x : Int) (i : Nat) : bitB x i = true ↔ x / 2 ^ i % 2 = 1 := by unfold bitB; simp
theorem bitB_not (x : Int) (i : Nat) : bitB x i = false ↔ x / 2 ^ i % 2 = 0 := by unfold bitB; simp; omega
/-- A number's bits, as Find sees them. -/
structure Shape (m : Int) (s b : Nat) : Prop where
  low : ∀ i, i < s → bitB m i = false
  one : ∀ i, i < b → bitB m (s + i) = true
  pos : 1 ≤ b
  top : s + b ≤ 32
theorem shape_of (m : Int) (h2 : 1 ≤ m) (h3 : m < 2 ^ 32) : Shape m (fS m) (fB m) ∧ bitB m (fS m + fB m) = false := by
  obtain ⟨t1, t2, t3⟩ := tzF_spec 32 m (by omega) h3
  have hd0 : 0 ≤ m / 2 ^ fS m := Int.ediv_nonneg (by omega) (Int.le_of_lt (pow_pos' _))
  have hd1 : m / 2 ^ fS m ≤ m := Int.ediv_le_self _ (by omega)
  obtain ⟨u1, u2, u3⟩ := toF_spec 32 (m / 2 ^ fS m) hd0 (by omega)
  have hone : ∀ i, i < fB m → bitB m (fS m + i) = true := fun i hi => by rw [bitB_iff, ← div_div_pow]; exact u3 i hi
  have htop : fS m + fB m ≤ 32 := by
    rcases Nat.lt_or_ge 32 (fS m + fB m) with h | h
    · have hb := hone (32 - fS m) (by have : fS m < 32 := t1; omega)
      have : fS m < 32 := t1
      rw [bitB_iff, show fS m + (32 - fS m) = 32 by omega, Int.ediv_eq_zero_of_lt (by omega) h3] at hb
      simp at hb
    · exact h
  have hpos : 1 ≤ fB m := by
    rcases Nat.lt_or_ge 0 (fB m) with h | h
    · exact h
    · have h0 : fB m = 0 := by omega
      have : m / 2 ^ fS m / 2 ^ fB m % 2 = 0 := u2
      rw [h0] at this
      have t2' : m / 2 ^ fS m % 2 = 1 := t2
      simp at this; omega
  refine ⟨⟨fun i hi => ?_, hone, hpos, htop⟩, ?_⟩
  · rw [bitB_not]; exact t3 i hi
  · rw [bitB_not, ← div_div_pow]; exact u2
theorem rf_low {m : Int} {s b : Nat} (h : Shape m s b) (k : Nat) (hk : k ≤ s) : rfAcc m k = (0, 0, 0) := by
  induction k with
  | zero => rfl
  | succ k ih => rw [rfAcc_succ, h.low k (by omega)]; simpa using ih (by omega)
theorem rf_run {m : Int} {s b : Nat} (h : Shape m s b) (j : Nat) (h1 : 1 ≤ j) (hj : j ≤ b) : rfAcc m (s + j) = ((s : Int), (j : Int), 1) := by
  induction j with
  | zero => omega
  | succ j ih =>
    rw [show s + (j + 1) = (s + j) + 1 by omega, rfAcc_succ, h.one j (by omega), if_pos rfl]
    by_cases e : j = 0
    · subst e
      have hc : s + 0 = 0 ∨ bitB m (s + 0 - 1) = false := by
        by_cases e2 : s = 0
        · left; omega
        · right; rw [show s + 0 - 1 = s - 1 by omega]; exact h.low (s - 1) (by omega)
      rw [if_pos hc, show rfAcc m (s + 0) = (0, 0, 0) from rf_low h s (Nat.le_refl _)]
      simp
    · have hc : ¬ (s + j = 0 ∨ bitB m (s + j - 1) = false) := by
        intro hc; rcases hc with hc | hc
        · omega
        · rw [show s + j - 1 = s + (j - 1) by omega, h.one (j - 1) (by omega)] at hc; simp at hc
      rw [if_neg hc, ih (by omega) (by omega)]; simp
theorem rf_none {m : Int} {s b : Nat} (h : Shape m s b) (hz : m / 2 ^ (s + b) = 0) (k : Nat) (hk : s + b ≤ k) : rfAcc m k = ((s : Int), (b : Int), 1) := by
  obtain ⟨d, rfl⟩ := Nat.exists_eq_add_of_le hk
  induction d with
  | zero => exact rf_run h b h.pos (Nat.le_refl _)
  | succ d ih =>
    have hb : bitB m (s + b + d) = false := by rw [bitB_not, ← div_div_pow, hz]; simp
    rw [show s + b + (d + 1) = (s + b + d) + 1 by omega, rfAcc_succ, hb]
    simpa using ih (by omega)
theorem rf_mono (m : Int) (k d : Nat) : (rfAcc m k).2.2 ≤ (rfAcc m (k + d)).2.2 := by
  induction d with
  | zero => exact Int.le_refl _
  | succ d ih => rw [show k + (d + 1) = (k + d) + 1 by omega, rfAcc_succ]; split <;> (try split) <;> (try simp only []) <;> omega
theorem rf_two {m : Int} {s b : Nat} (h : Shape m s b) (hgap : bitB m (s + b) = false) (t : Nat) (ht : s + b ≤ t) (hb : bitB m t = true) : ∀ k, t < k → 2 ≤ (rfAcc m k).2.2 := by
  -- the first bit behind the gap begins a new run
  have key : ∀ d, (∀ i, i < d → bitB m (s + b + i) = false) → rfAcc m (s + b + d) = ((s : Int), (b : Int), 1) := by
    intro d
    induction d with
    | zero => intro _; exact rf_run h b h.pos (Nat.le_refl _)
    | succ d ih => intro hd; rw [show s + b + (d + 1) = (s + b + d) + 1 by omega, rfAcc_succ, hd d (by omega)]; simpa using ih (fun i hi => hd i (by omega))
  have first : ∃ d, d ≤ t - (s + b) ∧ bitB m (s + b + d) = true ∧ ∀ i, i < d → bitB m (s + b + i) = false := by
    have : ∀ n, bitB m (s + b + n) = true → ∃ d, d ≤ n ∧ bitB m (s + b + d) = true ∧ ∀ i, i < d → bitB m (s + b + i) = false := by
      intro n
      induction n using Nat.strongRecOn with
      | ind n ih =>
        intro hn
        by_cases hex : ∃ i, i < n ∧ bitB m (s + b + i) = true
        · obtain ⟨i, hi, hbi⟩ := hex
          obtain ⟨d, hd, hd2⟩ := ih i hi hbi
          exact ⟨d, by omega, hd2⟩
        · exact ⟨n, Nat.le_refl _, hn, fun i hi => by
            cases hc : bitB m (s + b + i) with
            | false => rfl
            | true => exact absurd ⟨i, hi, hc⟩ hex⟩
    exact this (t - (s + b)) (by rw [show s + b + (t - (s + b)) = t by omega]; exact hb)
  obtain ⟨d, hd, hbd, hlow⟩ := first
  have hd0 : 0 < d := by
    rcases Nat.eq_zero_or_pos d with e | e
    · subst e; rw [Nat.add_zero] at hbd; rw [hbd] at hgap; simp at hgap
    · exact e
  have h2 : (rfAcc m (s + b + d + 1)).2.2 = 2 := by
    rw [rfAcc_succ, hbd, if_pos rfl, if_pos (by right; rw [show s + b + d - 1 = s + b + (d - 1) by omega]; exact hlow _ (by omega)), key d hlow]; rfl
  intro k hk
  obtain ⟨e, he⟩ := Nat.exists_eq_add_of_le (show s + b + d + 1 ≤ k by omega)
  have := rf_mono m (s + b + d + 1) e
  rw [← he] at this; omega
/-- Find and its reference say the same. -/
theorem find_same (m width : Int) : (findI m width).2.2 = (rfindI m width).2.2 ∧ (findI m width).2.1 = (rfindI m width).2.1 ∧ (0 < (findI m width).2.1 → (findI m width).1 = (rfindI m width).1) ∧ ((findI m width).2.1 = 0 → (findI m width).1 = 0) ∧ 0 ≤ (findI m width).2.1 := by
  unfold findI rfindI
  by_cases h1 : ¬ width = 16 ∧ ¬ width = 32
  · rw [if_pos h1, if_pos h1]; simp
  · rw [if_neg h1, if_neg h1]
    by_cases h2 : m < 0 ∨ 2 ^ width.toNat - 1 < m
    · have h2' : m < 0 ∨ 2 ^ width.toNat ≤ m := by omega
      rw [if_pos h2, if_pos h2']; simp
    · have h2' : ¬ (m < 0 ∨ 2 ^ width.toNat ≤ m) := by omega
      rw [if_neg h2, if_neg h2']
      have hw : width.toNat ≤ 32 := by omega
      have hp := pow_le' hw
      by_cases h3 : m = 0
      · subst h3
        have hz : ∀ k, rfAcc 0 k = (0, 0, 0) := by
          intro k; induction k with
          | zero => rfl
          | succ k ih => rw [rfAcc_succ, show bitB 0 k = false by rw [bitB_not]; simp]; simpa using ih
        rw [if_pos rfl, hz]; simp
      · rw [if_neg h3]
        obtain ⟨hs, hgap⟩ := shape_of m (by omega) (by omega)
        have hsb : fS m + fB m ≤ width.toNat := by
          rcases Nat.lt_or_ge width.toNat (fS m + fB m) with h | h
          · have hb := hs.one (fB m - 1) (by have := hs.pos; omega)
            have hle := pow_le' (show width.toNat ≤ fS m + (fB m - 1) by have := hs.pos; omega)
            rw [bitB_iff, Int.ediv_eq_zero_of_lt (by omega) (by omega)] at hb
            simp at hb
          · exact h
        by_cases hz : m / 2 ^ (fS m + fB m) = 0
        · rw [if_pos hz, rf_none hs hz _ hsb]; simp; have := hs.pos; omega
        · rw [if_neg hz]
          have hq : 0 < m / 2 ^ (fS m + fB m) := by have := Int.ediv_nonneg (show 0 ≤ m by omega) (Int.le_of_lt (pow_pos' (fS m + fB m))); omega
          have hq2 : m / 2 ^ (fS m + fB m) < 2 ^ 32 := by have := Int.ediv_le_self (2 ^ (fS m + fB m)) (show 0 ≤ m by omega); omega
          obtain ⟨t1, t2, _⟩ := tzF_spec 32 _ hq hq2
          rw [div_div_pow] at t2
          have hb := (bitB_iff m _).2 t2
          have hlt : fS m + fB m + tzF 32 (m / 2 ^ (fS m + fB m)) < width.toNat := by
            rcases Nat.lt_or_ge (fS m + fB m + tzF 32 (m / 2 ^ (fS m + fB m))) width.toNat with h | h
            · exact h
            · have hle := pow_le' h
              rw [bitB_iff, Int.ediv_eq_zero_of_lt (by omega) (by omega)] at hb
              simp at hb
          have := rf_two hs hgap _ (by omega) hb _ hlt
          rw [if_pos (by omega)]; simp
/-- A mask that is one, whole. -/
theorem find_good (m width : Int) (he : (findI m width).2.2 = 0) (hm : m ≠ 0) : ∃ s b : Nat, (findI m width).1 = s ∧ (findI m width).2.1 = b ∧ Shape m s b ∧ m / 2 ^ (s + b) = 0 := by
  have hr := findI_ok m width he
  have hs := shape_of m (by omega) hr.2
  unfold findI at he ⊢
  split at he
  · simp at he
  · rename_i h1
    rw [if_neg h1]
    split at he
    · simp at he
    · rename_i h2
      rw [if_neg h2, if_neg hm]
      split at he
      · rename_i h3
        rw [if_pos h3]; exact ⟨fS m, fB m, rfl, rfl, hs.1, h3⟩
      · simp at he
theorem shape_right {m : Int} {s b : Nat} (h : Shape m s b) : rightB s b = true := by have := h.pos; have := h.top; simp [rightB]; omega
theorem shape_word {m : Int} {s b : Nat} (h : Shape m s b) (hz : m / 2 ^ (s + b) = 0) : wordI s b = m := by
  have low : ∀ k, k ≤ s → m % 2 ^ k = 0 := by
    intro k hk
    induction k with
    | zero => simp <;> omega
    | succ k ih => rw [mod_succ, ih (by omega), (bitB_not _ _).1 (h.low k (by omega))]; simp
  have run : ∀ j, j ≤ b → m / 2 ^ s % 2 ^ j = 2 ^ j - 1 := by
    intro j hj
    induction j with
    | zero => simp <;> omega
    | succ j ih => rw [mod_succ, ih (by omega), div_div_pow, (bitB_iff _ _).1 (h.one j (by omega)), pow_succ']; omega
  unfold wordI
  rw [if_pos (shape_right h)]
  have e1 := Int.mul_ediv_add_emod m (2 ^ s)
  rw [low s (Nat.le_refl _)] at e1
  have e2 := Int.mul_ediv_add_emod (m / 2 ^ s) (2 ^ b)
  rw [div_div_pow, hz, run b (Nat.le_refl _)] at e2
  rw [← e2] at e1
  simp only [Int.toNat_natCast]
  rw [Int.mul_comm] at e1; simp at e1; omega
end Go.Proofs.YtlfbaggcfaenlaaGreat

namespace Go.Proofs.YtlfbaggcfaenlaaGreat
open Go.RowKit
theorem bitB_nat (n i : Nat) : bitB n i = n.testBit i := by
  rw [Nat.testBit_eq_decide_div_mod_eq]
  unfold bitB
  have : ((n : Int) / 2 ^ i % 2 = 1) ↔ n / 2 ^ i % 2 = 1 := by
    have e : ((n : Int) / 2 ^ i % 2) = ((n / 2 ^ i % 2 : Nat) : Int) := by rw [Int.natCast_emod, Int.natCast_ediv, Int.natCast_pow]; rfl
    rw [e]; omega
  simp [this]
theorem bothF_iff (a b : Nat) (k : Nat) : bothF a b k = true ↔ ∃ i, i < k ∧ a.testBit i = true ∧ b.testBit i = true := by
  induction k with
  | zero => simp [bothF]
  | succ k ih =>
    rw [bothF_succ, Bool.or_eq_true, ih, Bool.and_eq_true, bitB_nat, bitB_nat]
    constructor
    · rintro (⟨i, h1, h2⟩ | h)
      · exact ⟨i, by omega, h2⟩
      · exact ⟨k, by omega, h⟩
    · rintro ⟨i, h1, h2⟩
      by_cases e : i = k
      · subst e; exact Or.inr h2
      · exact Or.inl ⟨i, by omega, h2⟩
theorem and_ne_zero (a b : Nat) : a &&& b ≠ 0 ↔ ∃ i, a.testBit i = true ∧ b.testBit i = true := by
  constructor
  · intro h
    obtain ⟨i, hi⟩ := Nat.exists_testBit_of_ne_zero h
    rw [Nat.testBit_and, Bool.and_eq_true] at hi
    exact ⟨i, hi⟩
  · rintro ⟨i, h1, h2⟩ h0
    have : (a &&& b).testBit i = true := by rw [Nat.testBit_and, h1, h2]; rfl
    rw [h0] at this; simp at this
theorem anyBoth_iff (l : Nat → Int) (n : Nat) (k : Nat) (hk : l k = (n : Int)) (hn : n < 2 ^ 32) : ∀ j, (∀ i, i < j → 0 ≤ l i) → (anyBoth l k j = true ↔ n &&& seenN l j ≠ 0) := by
  intro j
  induction j with
  | zero => intro _; simp [anyBoth, seenN]
  | succ j ih =>
    intro h
    obtain ⟨m, hm⟩ := Int.eq_ofNat_of_zero_le (h j (by omega))
    rw [anyBoth_succ, Bool.or_eq_true, ih (fun i hi => h i (by omega)), seenN_succ, hk, hm, bothF_iff, and_ne_zero, and_ne_zero]
    constructor
    · rintro (⟨i, h1, h2⟩ | ⟨i, _, h1, h2⟩)
      · exact ⟨i, h1, by rw [Nat.testBit_or, h2]; rfl⟩
      · exact ⟨i, h1, by rw [Nat.testBit_or]; simp [h2]⟩
    · rintro ⟨i, h1, h2⟩
      rw [Nat.testBit_or, Bool.or_eq_true] at h2
      rcases h2 with h2 | h2
      · exact Or.inl ⟨i, h1, h2⟩
      · refine Or.inr ⟨i, ?_, h1, by simpa using h2⟩
        rcases Nat.lt_or_ge i 32 with h3 | h3
        · exact h3
        · rw [Nat.testBit_lt_two_pow (Nat.lt_of_lt_of_le hn (Nat.pow_le_pow_right (by decide) h3))] at h1; simp at h1
theorem step_same (l : Nat → Int) (width : Int) (k : Nat) (h : ∀ j, j < k → pstep l width j = 0) : pstep l width k = rstep l width k := by
  unfold pstep rstep
  rw [(find_same (l k) width).1]
  by_cases he : (rfindI (l k) width).2.2 = 0
  · have hf : (findI (l k) width).2.2 = 0 := by rw [(find_same (l k) width).1]; exact he
    have hr := findI_ok _ _ hf
    obtain ⟨n, hn⟩ := Int.eq_ofNat_of_zero_le hr.1
    have hpos : ∀ i, i < k → 0 ≤ l i := by
      intro i hi
      have hk := h i hi
      have he' : (findI (l i) width).2.2 = 0 := by
        unfold pstep at hk; split at hk
        · exact hk
        · rename_i h'; simpa using h'
      exact (findI_ok _ _ he').1
    have ha := anyBoth_iff l n k hn (by omega) k hpos
    have hn' : (l k).toNat = n := by omega
    rw [hn', he]
    by_cases hb : anyBoth l k k = true
    · have := ha.1 hb
      simp [hb, this]
    · have hc : n &&& seenN l k = 0 := Decidable.not_not.1 (fun hc => hb (ha.2 hc))
      simp [hb, hc]
  · simp [he]
theorem scan_congr (f g : Nat → Int) (h0 : f 0 = g 0) (h1 : f 0 = 0 → f 1 = g 1) (h2 : f 0 = 0 → f 1 = 0 → f 2 = g 2) (h3 : f 0 = 0 → f 1 = 0 → f 2 = 0 → f 3 = g 3) : scan4 f = scan4 g := by
  unfold scan4
  by_cases e0 : f 0 = 0
  · have g0 := h0 ▸ e0; have h1 := h1 e0
    by_cases e1 : f 1 = 0
    · have g1 := h1 ▸ e1; have h2 := h2 e0 e1
      by_cases e2 : f 2 = 0
      · have g2 := h2 ▸ e2; have h3 := h3 e0 e1 e2
        simp [e0, g0, e1, g1, e2, g2, h3]
      · have g2 : ¬ g 2 = 0 := h2 ▸ e2
        simp [e0, g0, e1, g1, g2, h2]
    · have g1 : ¬ g 1 = 0 := h1 ▸ e1
      simp [e0, g0, g1, h1]
  · have g0 : ¬ g 0 = 0 := h0 ▸ e0
    simp [g0, h0]
theorem scan_same (l : Nat → Int) (width : Int) : scan4 (pstep l width) = scan4 (rstep l width) :=
  scan_congr _ _ (step_same l width 0 (fun j hj => by omega))
    (fun e0 => step_same l width 1 (fun j hj => by obtain rfl : j = 0 := by omega
                                                   exact e0))
    (fun e0 e1 => step_same l width 2 (fun j hj => by rcases (show j = 0 ∨ j = 1 by omega) with rfl | rfl
                                                      · exact e0
                                                      · exact e1))
    (fun e0 e1 e2 => step_same l width 3 (fun j hj => by rcases (show j = 0 ∨ j = 1 ∨ j = 2 by omega) with rfl | rfl | rfl
                                                         · exact e0
                                                         · exact e1
                                                         · exact e2))
theorem scan_ok (f : Nat → Int) (h : (scan4 f).2 = 0) : f 0 = 0 ∧ f 1 = 0 ∧ f 2 = 0 ∧ f 3 = 0 := by
  unfold scan4 at h
  by_cases h0 : f 0 = 0
  · rw [if_neg (by simp [h0])] at h
    by_cases h1 : f 1 = 0
    · rw [if_neg (by simp [h1])] at h
      by_cases h2 : f 2 = 0
      · rw [if_neg (by simp [h2])] at h
        by_cases h3 : f 3 = 0
        · exact ⟨h0, h1, h2, h3⟩
        · rw [if_pos h3] at h; exact absurd h h3
      · rw [if_pos h2] at h; exact absurd h h2
    · rw [if_pos h1] at h; exact absurd h h1
  · rw [if_pos h0] at h; exact absurd h h0
theorem pstep_ok (l : Nat → Int) (width : Int) (k : Nat) (h : pstep l width k = 0) : (findI (l k) width).2.2 = 0 := by
  unfold pstep at h; split at h
  · exact h
  · rename_i h'; simpa using h'
end Go.Proofs.YtlfbaggcfaenlaaGreat


/- dibrle.Pack: arguments that are wrong; any arguments. -/
import Derived.Test.YtlfbaggcfaenlaaGreatK27
import Derived.Test.YtlfbaggcfaenlaaGreatK8
import Derived.Test.YtlfbaggcfaenlaaGreatK25
import Derived.Test.YtlfbaggcfaenlaaGreatK1
import Derived.Test.YtlfbaggcfaenlaaGreatK17
import Derived.Test.YtlfbaggcfaenlaaGreatK0
namespace Go.Proofs.YtlfbaggcfaenlaaGreat
open Go.RowKit
set_option linter.unusedVariables false
set_option linter.unusedSimpArgs false
def rleArg (n : Nat) (w d : Int) : Prop := w < 1 ∨ 16384 < w ∨ (d ≠ 4 ∧ d ≠ 8) ∨ n = 0 ∨ n % w.toNat ≠ 0
set_option maxRecDepth 100000 in
set_option maxHeartbeats 4000000 in
theorem epack_arg (a : Option Addr) (n cap : Nat) (wd d : Int) (w : World) (hn : n ≤ 100000000) (h : rleArg n wd d) : Calls Tryz.prog 61 #[.slice a n cap, .int .i64 wd, .int .i64 d] w (Packs w (ByteArray.empty, 1)) := by
  by_cases h1 : wd < 1
  · have D1 : decide (wd < 1) = true := by rw [decide_eq_true_iff]; exact h1
    clear h h1
    go_enter Tryz.func61, Tryz.ntmps61
    go_wp2_with ((with_reducible refine skip_g rfl ?_ ?_); rfl; intro _)
    go_ret2
    exact ⟨rfl, Below.refl _ _⟩
  have D1 : decide (wd < 1) = false := by rw [decide_eq_false_iff_not]; exact h1
  by_cases h2 : wd > 16384
  · have D2 : decide (wd > 16384) = true := by rw [decide_eq_true_iff]; exact h2
    clear h h1 h2
    go_enter Tryz.func61, Tryz.ntmps61
    go_wp2_with ((with_reducible refine skip_g rfl ?_ ?_); rfl; intro _)
    go_ret2
    exact ⟨rfl, Below.refl _ _⟩
  have D2 : decide (wd > 16384) = false := by rw [decide_eq_false_iff_not]; exact h2
  obtain ⟨W, rfl⟩ := Int.eq_ofNat_of_zero_le (show 0 ≤ wd by omega)
  by_cases h3 : d ≠ 4 ∧ d ≠ 8
  · have e4 : (d != 4) = true := by rw [bne_iff_ne]; exact h3.1
    have e8 : (d != 8) = true := by rw [bne_iff_ne]; exact h3.2
    clear h h1 h2 h3
    go_enter Tryz.func61, Tryz.ntmps61
    go_wp2_with ((with_reducible refine skip_g rfl ?_ ?_); rfl; intro _)
    go_ret2
    exact ⟨rfl, Below.refl _ _⟩
  have hd : d = 4 ∨ d = 8 := by omega
  by_cases h4 : n = 0
  · subst h4
    clear h h1 h2 h3
    rcases hd with rfl | rfl
    all_goals
      go_enter Tryz.func61, Tryz.ntmps61
      go_wp2_with ((with_reducible refine skip_g rfl ?_ ?_); rfl; intro _)
      go_ret2
      exact ⟨rfl, Below.refl _ _⟩
  have hm : n % W ≠ 0 := by
    unfold rleArg at h
    rcases h with h | h | h | h | h
    · omega
    · omega
    · exact absurd h h3
    · exact absurd h h4
    · simpa using h
  have D5 : ((n : Int) == 0) = false := by rw [beq_eq_false_iff_ne]; omega
  have hW0 : ¬ W = 0 := by omega
  have hm1 : n % W < W := Nat.mod_lt _ (by omega)
  have hmI : ((n : Int) % (W : Int) != 0) = true := by
    have e : ((n : Int) % (W : Int)) = ((n % W : Nat) : Int) := by rw [Int.natCast_emod]
    rw [e, bne_iff_ne]; omega
  obtain ⟨r, hr⟩ : ∃ r : Int, (n : Int) % (W : Int) = r := ⟨_, rfl⟩
  rw [hr] at hmI
  clear h h1 h2 h3 h4 hm hm1
  rcases hd with rfl | rfl
  all_goals
    go_enter Tryz.func61, Tryz.ntmps61
    go_wp2_with ((with_reducible refine skip_g rfl ?_ ?_); rfl; intro _)
    go_ret2
    exact ⟨rfl, Below.refl _ _⟩
def rleI (l : List Int) (w d : Int) : ByteArray × Int := if w < 1 ∨ 16384 < w ∨ (d ≠ 4 ∧ d ≠ 8) ∨ l.length = 0 ∨ l.length % w.toNat ≠ 0 then (ByteArray.empty, 1) else if ∀ i, i < l.length → 0 ≤ l.getD i 0 ∧ l.getD i 0 < 2 ^ d.toNat then (strOf (encA l w.toNat d 0), 0) else (ByteArray.empty, 2)
theorem epack_any (l : List Int) (B o cap : Nat) (wd d : Int) (w : World) (hB : B < w.heap.size) (hn : l.length ≤ 100000000) (hcap : l.length ≤ cap) (hcm : cap ≤ maxLen) (hc : ∀ i, i < l.length → w.cell? ⟨B, o + i, none⟩ = some (.int .i64 (l.getD i 0))) :
    Calls Tryz.prog 61 #[.slice (some ⟨B, o, none⟩) l.length cap, .int .i64 wd, .int .i64 d] w (Packs w (rleI l wd d)) := by
  unfold rleI
  by_cases h : rleArg l.length wd d
  · have h' := h
    unfold rleArg at h'
    rw [if_pos h']; exact epack_arg _ _ _ _ _ w hn h
  · unfold rleArg at h
    rw [if_neg h]
    obtain ⟨W, rfl⟩ := Int.eq_ofNat_of_zero_le (show 0 ≤ wd by omega)
    have hm : l.length % W = 0 := by
      rcases Nat.eq_zero_or_pos (l.length % W) with e | e
      · exact e
      · exact absurd (Or.inr (Or.inr (Or.inr (Or.inr (by simp; omega))))) h
    have hl : l.length ≠ 0 := fun e => h (Or.inr (Or.inr (Or.inr (Or.inl e))))
    have hW : 1 ≤ W := by omega
    have e := Nat.div_add_mod l.length W
    rw [hm, Nat.add_zero, Nat.mul_comm] at e
    refine epack_go l B o cap W (l.length / W) d w hB hn hcap hcm hW (by omega) (by omega) e.symm ?_ hc
    rcases Nat.eq_zero_or_pos (l.length / W) with e0 | e0
    · rw [e0, Nat.zero_mul] at e; omega
    · exact e0
def Yes22 (w : World) (e : Ending) (w' : World) : Prop := e = .returned (.bool true) ∧ Below w.heap.size w w'
theorem rle_ex : rleI [5, 5, 5] 3 8 = (⟨#[3, 5, 0, 0, 0, 1]⟩, 0) := by decide +kernel
theorem epack_ex (w : World) (T : TypeId) : Calls Tryz.prog 61 #[.slice (some ⟨w.heap.size, 0, none⟩) 3 3, .int .i64 3, .int .i64 8] (w.alloc (.cells #[.int .i64 5, .int .i64 5, .int .i64 5] T)) fun e w' => e = .returned (.tuple #[.string ⟨#[3, 5, 0, 0, 0, 1]⟩, .int .i64 0]) ∧ Below w.heap.size w w' :=
  (epack_any [5, 5, 5] w.heap.size 0 3 3 8 _ (by simp) (by decide) (by decide) (by decide) (by
    intro i hi
    rcases (show i = 0 ∨ i = 1 ∨ i = 2 by simp at hi; omega) with rfl | rfl | rfl <;> simp [go_sem])).mono fun e w' hh => by
      obtain ⟨h1, h2⟩ := hh
      rw [rle_ex] at h1
      exact ⟨h1, bthen h2 ((Below.refl _ _).alloc (Nat.le_refl _) _) (by simp)⟩
theorem awake22 (w : World) : Calls Tryz.prog 15 #[] w (Yes22 w) := by
  go_enter Tryz.func15, Tryz.ntmps15
  go_wp2_with (go_at_call 61; (with_reducible refine (epack_ex _ _).mono ?_); rintro e w1 ⟨rfl, hb1⟩)
  go_ret
  exact ⟨rfl, hb1⟩
theorem size10_4 (w : World) : Calls Tryz.prog 160 #[.int .i64 4] w fun e w' => e = .returned (.int .i64 4) ∧ w' = w := by
  go_enter Tryz.func160, Tryz.ntmps160
  go_wp2
  go_ret
  exact ⟨rfl, rfl⟩
theorem size10_3 (w : World) : Calls Tryz.prog 160 #[.int .i64 3] w fun e w' => e = .returned (.int .i64 3) ∧ w' = w := by
  go_enter Tryz.func160, Tryz.ntmps160
  go_wp2
  go_ret
  exact ⟨rfl, rfl⟩
def entR (b d : Int) (i : Nat) : Int := if d = 8 then b else if i % 2 = 0 then b / 16 else b % 16
theorem entry22_any (b d : Int) (i : Nat) (w : World) (h0 : 0 ≤ b) (h1 : b < 256) : Calls Tryz.prog 162 #[.int .u8 b, .int .i64 d, .int .i64 i] w fun e w' => e = .returned (.int .i64 (entR b d i)) ∧ w' = w := by
  have eC : IntKind.i64.wrap b = b := i64_wraps _ (by omega) (by omega)
  by_cases h8 : d = 8
  · have E := Hi (show entR b d i = b by unfold entR; rw [if_pos h8])
    have hd : (d == 8) = true := by rw [h8]; rfl
    clear h8
    go_enter Tryz.func162, Tryz.ntmps162
    go_wp2
    go_ret
    exact ⟨ret_i E.out.symm, rfl⟩
  have hd : (d == 8) = false := by rw [beq_eq_false_iff_ne]; exact h8
  by_cases h2 : i % 2 = 0
  · have E := Hi (show entR b d i = b / 16 by unfold entR; rw [if_neg h8, if_pos h2])
    have hi : ((i : Int) % 2 == 0) = true := by rw [beq_iff_eq]; omega
    clear h8 h2
    go_enter Tryz.func162, Tryz.ntmps162
    go_wp2
    go_ret
    exact ⟨ret_i E.out.symm, rfl⟩
  · have E := Hi (show entR b d i = b % 16 by unfold entR; rw [if_neg h8, if_neg h2])
    have hi : ((i : Int) % 2 == 0) = false := by rw [beq_eq_false_iff_ne]; omega
    clear h8 h2
    go_enter Tryz.func162, Tryz.ntmps162
    go_wp2
    go_ret
    exact ⟨ret_i E.out.symm, rfl⟩
def bad13 (k a : Int) : List Value := [.int .i64 0, .int .i64 0, .slice none 0 0, .int .i64 k, .int .i64 a]
theorem bad13_any (k a : Int) (w : World) : Calls Tryz.prog 93 #[.int .i64 k, .int .i64 a] w fun e w' => e = .returned (.agg (List.toArray (bad13 k a))) ∧ Below w.heap.size w w' := by
  go_enter Tryz.func93, Tryz.ntmps93
  go_wp2
  refine bodyPost_ret (v := .agg (List.toArray (bad13 k a))) ?_ rfl ⟨rfl, (Below.refl _ _).alloc (Nat.le_refl _) _⟩
  exact results_c Tryz.results93 _ _ _ (bad13 k a) _ rfl (Obj1.range0 (cs := (bad13 k a)) (obj1_new w _ _)) Tryz.underlying59 rfl (by kernel_rfl)
def JK.putE (K : JK) (σ : JS) (e : Int) : JS × (Int × Int) := K.put σ (byN (K.p.ent e.toNat) 0) (byN (K.p.ent e.toNat) 1) (byN (K.p.ent e.toNat) 2) (byN (K.p.ent e.toNat) 3)
def JK.byteL (K : JK) (v pl : Int) : Nat → Nat → JS → JS × (Int × Int)
  | 0, i, σ => (σ, (0, 0))
  | c + 1, i, σ => if K.p.has (entR v K.n.dp i) = false then (σ, (2, pl)) else
      if (K.putE σ (entR v K.n.dp i)).2.1 = 0 then K.byteL v pl c (i + 1) (K.putE σ (entR v K.n.dp i)).1 else K.putE σ (entR v K.n.dp i)
def JK.putsL (K : JK) (es : Nat → Int) : Nat → Nat → JS → JS × (Int × Int)
  | 0, i, σ => (σ, (0, 0))
  | c + 1, i, σ => if (K.putE σ (es i)).2.1 = 0 then K.putsL es c (i + 1) (K.putE σ (es i)).1 else K.putE σ (es i)
def JK.runL (K : JK) (e0 e1 : Int) : Nat → Nat → JS → JS × (Int × Int) := K.putsL fun i => if i % 2 = 0 then e0 else e1
def JK.room (K : JK) (σ : JS) (n : Nat) : Prop := σ.y < K.n.H ∧ σ.x + n ≤ K.n.W
instance (K : JK) (σ : JS) (n : Nat) : Decidable (K.room σ n) := by unfold JK.room; infer_instance
def JK.run (K : JK) (σ : JS) (n : Nat) (v a : Int) : JS × (Int × Int) :=
  if ¬ K.room σ n then (σ, (2, a)) else
  if K.p.has (entR v K.n.dp 0) = false ∨ K.p.has (entR v K.n.dp (if n = 1 then 0 else 1)) = false then (σ, (2, a + 1)) else
  K.runL (entR v K.n.dp 0) (entR v K.n.dp (if n = 1 then 0 else 1)) n 0 σ
def JK.each (K : JK) : Nat := (8 / K.n.dp).toNat
def JK.plainL (K : JK) : Nat → Nat → JS → JS × (Int × Int)
  | 0, c, σ => (σ, (0, 0))
  | m + 1, c, σ => if (K.next σ 1).2.2 = false then ((K.next σ 1).1, K.ft (K.next σ 1).1.l (K.next σ 1).1.a) else
      if (K.byteL (byN K.x.s σ.a) σ.a (min K.each c) 0 (K.next σ 1).1).2.1 = 0 then K.plainL m (c - K.each) (K.byteL (byN K.x.s σ.a) σ.a (min K.each c) 0 (K.next σ 1).1).1 else K.byteL (byN K.x.s σ.a) σ.a (min K.each c) 0 (K.next σ 1).1
def JK.bytes (K : JK) (n : Nat) : Nat := (n + K.each - 1) / K.each
def JK.plain (K : JK) (σ : JS) (n : Nat) (a : Int) : JS × (Int × Int) :=
  if ¬ K.room σ n then (σ, (2, a)) else
  if (K.plainL (K.bytes n) n σ).2.1 = 0 then
    (if K.bytes n % 2 = 1 then (if (K.next (K.plainL (K.bytes n) n σ).1 1).2.2 = false then ((K.next (K.plainL (K.bytes n) n σ).1 1).1, K.ft (K.next (K.plainL (K.bytes n) n σ).1 1).1.l (K.next (K.plainL (K.bytes n) n σ).1 1).1.a) else ((K.next (K.plainL (K.bytes n) n σ).1 1).1, (0, 0))) else ((K.plainL (K.bytes n) n σ).1, (0, 0)))
  else K.plainL (K.bytes n) n σ
def JK.move (K : JK) (σ : JS) (x y : Nat) (a : Int) : JS × (Int × Int) := (⟨x, y, σ.a, σ.l, σ.d⟩, K.ins ⟨x, y, σ.a, σ.l, σ.d⟩ a)
def JK.leap (K : JK) (σ : JS) (a : Int) : JS × (Int × Int) :=
  if (K.next σ 2).2.2 = false then ((K.next σ 2).1, K.ft (K.next σ 2).1.l (K.next σ 2).1.a) else
  K.move (K.next σ 2).1 (σ.x + (byN K.x.s σ.a).toNat) (σ.y + (byN K.x.s (σ.a + 1)).toNat) a
def JK.cmd (K : JK) (σ : JS) (n v a : Int) : JS × (Int × Int) :=
  if 0 < n then K.run σ n.toNat v a else if v = 0 then K.move σ 0 (σ.y + 1) a else if v = 2 then K.leap σ a else K.plain σ v.toNat a
def JK.read (K : JK) : Nat → JS → JS × (Int × Int)
  | 0, σ => (σ, (0, 0))
  | f + 1, σ => if (K.next σ 2).2.2 = false then ((K.next σ 2).1, K.ft (K.next σ 2).1.l (K.next σ 2).1.a) else
      if byN K.x.s σ.a = 0 ∧ byN K.x.s (σ.a + 1) = 1 then ((K.next σ 2).1, (0, 0)) else
      if (K.cmd (K.next σ 2).1 (byN K.x.s σ.a) (byN K.x.s (σ.a + 1)) σ.a).2.1 = 0 then K.read f (K.cmd (K.next σ 2).1 (byN K.x.s σ.a) (byN K.x.s (σ.a + 1)) σ.a).1 else
      K.cmd (K.next σ 2).1 (byN K.x.s σ.a) (byN K.x.s (σ.a + 1)) σ.a
/-! ### what it costs -/
def LW (l l' : Led) (k : Nat) : Prop := l' = { l with st := l.st + k } ∨ (l' = ({ l with st := l.st + k } : Led).refuse 3 1 ∧ l.st + k = l.mx)
theorem LW.refl (l : Led) : LW l l 0 := Or.inl (by simp)
theorem LW.one {l : Led} (hb : l.br = false) (ho : l.ok) : ((l.work 1).2 = true ∧ LW l (l.work 1).1 1 ∧ (l.work 1).1.br = false) ∨ ((l.work 1).2 = false ∧ LW l (l.work 1).1 0 ∧ (l.work 1).1.br = true) := by
  have h1 := ho.s1
  unfold Led.work
  rw [if_neg (by rw [hb]; decide)]
  by_cases h : (1 : Int) < 0 ∨ l.mx - l.st < 1
  · rw [if_pos h]; exact Or.inr ⟨rfl, Or.inr ⟨by simp, by omega⟩, rfl⟩
  · rw [if_neg h]; exact Or.inl ⟨rfl, Or.inl (by simp), hb⟩
theorem LW.trans {l l1 l2 : Led} {j k : Nat} (h : LW l l1 j) (hb : l1.br = false) (g : LW l1 l2 k) : LW l l2 (j + k) := by
  rcases h with h | ⟨h, h'⟩
  · subst h
    rcases g with g | ⟨g, g'⟩
    · left; rw [g]; simp; omega
    · right
      refine ⟨?_, by show l.st + ((j + k : Nat) : Int) = l.mx; have : l.st + j + k = l.mx := g'; omega⟩
      rw [g]; unfold Led.refuse; simp; omega
  · rw [h] at hb; cases hb
theorem LW.ok {l l' : Led} {k : Nat} (h : LW l l' k) (ho : l.ok) (hk : l.st + k ≤ l.mx) : l'.ok := by
  obtain ⟨a, b, c, d, e, f⟩ := ho
  rcases h with h | ⟨h, h'⟩
  · subst h; exact ⟨a, b, c, by show 0 ≤ l.st + k; omega, hk, f⟩
  · subst h; exact ⟨a, b, c, by show 0 ≤ l.st + k; omega, hk, f⟩
def JK.pot (K : JK) (σ : JS) : Nat := min (σ.y * K.n.W + σ.x) (K.n.H * K.n.W)
structure Cost (K : JK) (σ : JS) (q : JS × (Int × Int)) (c : Nat) : Prop where
  ok : q.1.l.ok
  lw : ∃ k, LW σ.l q.1.l k ∧ k + σ.a + K.pot σ ≤ q.1.a + K.pot q.1 + c
  a0 : σ.a ≤ q.1.a
  a1 : q.1.a ≤ K.x.e
  br : q.1.l.br = true → q.2.1 = 4 ∧ 0 ≤ q.2.2 ∧ q.2.2 ≤ K.x.e
  len : q.1.d.length = σ.d.length
theorem Cost.trans {K : JK} {σ τ : JS} {t : Int × Int} {q : JS × (Int × Int)} {c c' : Nat} (h : Cost K σ (τ, t) c) (hb : τ.l.br = false) (g : Cost K τ q c') : Cost K σ q (c + c') := by
  obtain ⟨k1, l1, b1⟩ := h.lw
  obtain ⟨k2, l2, b2⟩ := g.lw
  have := h.a0
  have := g.a0
  simp only at b1 b2 l1
  exact ⟨g.ok, ⟨k1 + k2, l1.trans hb l2, by omega⟩, by simp only at *; omega, g.a1, g.br, g.len.trans h.len⟩
theorem Cost.mono {K : JK} {σ : JS} {q : JS × (Int × Int)} {c c' : Nat} (h : Cost K σ q c) (hc : c ≤ c') : Cost K σ q c' := by
  obtain ⟨k1, l1, b1⟩ := h.lw
  exact ⟨h.ok, ⟨k1, l1, by omega⟩, h.a0, h.a1, h.br, h.len⟩
theorem Cost.stay {K : JK} {σ : JS} (ho : σ.l.ok) (hb : σ.l.br = false) (ha : σ.a ≤ K.x.e) (t : Int × Int) : Cost K σ (σ, t) 0 :=
  ⟨ho, ⟨0, LW.refl _, by simp only; omega⟩, Nat.le_refl _, ha, (fun h => by rw [hb] at h; cases h), rfl⟩
theorem put_cost {K : JK} {σ : JS} (ho : σ.l.ok) (hb : σ.l.br = false) (ha : σ.a ≤ K.x.e) (hx : σ.x < K.n.W) (hy : σ.y < K.n.H) (c0 c1 c2 c3 : Int) :
    Cost K σ (K.put σ c0 c1 c2 c3) 0 ∧ ((K.put σ c0 c1 c2 c3).2.1 = 0 → (K.put σ c0 c1 c2 c3).2 = (0, 0) ∧ (K.put σ c0 c1 c2 c3).1.l.br = false ∧ (K.put σ c0 c1 c2 c3).1.x = σ.x + 1 ∧ (K.put σ c0 c1 c2 c3).1.y = σ.y ∧ (K.put σ c0 c1 c2 c3).1.a = σ.a ∧ (K.put σ c0 c1 c2 c3).1.d = put4 σ.d (4 * ((K.n.H - 1 - σ.y) * K.n.W + σ.x)) c0 c1 c2 c3) ∧
    ((K.put σ c0 c1 c2 c3).2.1 ≠ 0 → (K.put σ c0 c1 c2 c3).1.l.br = true) := by
  have hok := Led.work_ok ho 1
  have hm : (σ.y + 1) * K.n.W ≤ K.n.H * K.n.W := Nat.mul_le_mul_right _ (by omega)
  rw [Nat.add_mul, Nat.one_mul] at hm
  rcases LW.one hb ho with ⟨h1, h2, h3⟩ | ⟨h1, h2, h3⟩
  · have e : K.put σ c0 c1 c2 c3 = (⟨σ.x + 1, σ.y, σ.a, (σ.l.work 1).1, put4 σ.d (4 * ((K.n.H - 1 - σ.y) * K.n.W + σ.x)) c0 c1 c2 c3⟩, (0, 0)) := by unfold JK.put; rw [if_pos h1]
    rw [e]
    refine ⟨⟨hok, ⟨1, h2, ?_⟩, Nat.le_refl _, ha, fun h => ?_, put4_len _ _ _ _ _ _⟩, fun _ => ⟨rfl, h3, rfl, rfl, rfl, rfl⟩, fun h => absurd rfl h⟩
    · unfold JK.pot; simp only; omega
    · rw [h3] at h; cases h
  · have e : K.put σ c0 c1 c2 c3 = (⟨σ.x, σ.y, σ.a, (σ.l.work 1).1, σ.d⟩, (4, (σ.a : Int))) := by unfold JK.put; rw [if_neg (by rw [h1]; decide)]; unfold JK.ft; rw [if_pos h3]
    rw [e]
    refine ⟨⟨hok, ⟨0, h2, ?_⟩, Nat.le_refl _, ha, fun _ => ⟨rfl, by simp only; omega, by simp only; omega⟩, rfl⟩, fun h => ?_, fun _ => h3⟩
    · unfold JK.pot; simp only; omega
    · cases h
theorem next_cost {K : JK} {σ : JS} (ho : σ.l.ok) (hb : σ.l.br = false) (ha : σ.a ≤ K.x.e) (n : Nat) :
    ((K.next σ n).2.2 = true ∧ (K.next σ n).1 = ⟨σ.x, σ.y, σ.a + n, (K.next σ n).1.l, σ.d⟩ ∧ (K.next σ n).1.l.br = false ∧ σ.a + n ≤ K.x.e ∧ (K.next σ n).1.l.ok ∧ LW σ.l (K.next σ n).1.l 1) ∨
    ((K.next σ n).2.2 = false ∧ Cost K σ ((K.next σ n).1, K.ft (K.next σ n).1.l (K.next σ n).1.a) 1 ∧ ((K.next σ n).1.l.br = false → K.x.e < σ.a + n ∧ K.ft (K.next σ n).1.l (K.next σ n).1.a = (1, (K.x.e : Int)))) := by
  have hok := Led.work_ok ho 1
  rcases LW.one hb ho with ⟨h1, h2, h3⟩ | ⟨h1, h2, h3⟩
  · by_cases hn : n ≤ K.x.e - σ.a
    · have e : K.next σ n = (⟨σ.x, σ.y, σ.a + n, (σ.l.work 1).1, σ.d⟩, (K.x.s.extract σ.a (σ.a + n), true)) := by unfold JK.next; rw [if_pos ⟨h1, hn⟩]
      rw [e]
      exact Or.inl ⟨rfl, rfl, h3, by omega, hok, h2⟩
    · have e : K.next σ n = (⟨σ.x, σ.y, σ.a, (σ.l.work 1).1, σ.d⟩, (ByteArray.empty, false)) := by unfold JK.next; rw [if_neg (fun h => hn h.2)]
      rw [e]
      refine Or.inr ⟨rfl, ⟨hok, ⟨1, h2, by unfold JK.pot; simp only; omega⟩, Nat.le_refl _, ha, fun h => ?_, rfl⟩, fun _ => ⟨by omega, ?_⟩⟩
      · rw [show ((⟨σ.x, σ.y, σ.a, (σ.l.work 1).1, σ.d⟩ : JS).l.br = false) from h3] at h; cases h
      · unfold JK.ft; rw [if_neg (by rw [h3]; decide)]
  · have e : K.next σ n = (⟨σ.x, σ.y, σ.a, (σ.l.work 1).1, σ.d⟩, (ByteArray.empty, false)) := by unfold JK.next; rw [if_neg (fun h => by rw [h1] at h; cases h.1)]
    rw [e]
    have ef : K.ft (σ.l.work 1).1 σ.a = (4, (σ.a : Int)) := by unfold JK.ft; rw [if_pos h3]
    refine Or.inr ⟨rfl, ⟨hok, ⟨0, h2, by unfold JK.pot; simp only; omega⟩, Nat.le_refl _, ha, fun _ => ?_, rfl⟩, fun h => ?_⟩
    · show (K.ft (σ.l.work 1).1 σ.a).1 = 4 ∧ 0 ≤ (K.ft (σ.l.work 1).1 σ.a).2 ∧ (K.ft (σ.l.work 1).1 σ.a).2 ≤ K.x.e
      rw [ef]; exact ⟨rfl, by simp only; omega, by simp only; omega⟩
    · rw [show ((⟨σ.x, σ.y, σ.a, (σ.l.work 1).1, σ.d⟩ : JS).l.br = true) from h3] at h; cases h
theorem jtake2_any (N : Nat) (K : JK) (σ : JS) (w : World) (h : JAt w N K σ) : Calls Tryz.prog 66 #[.pointer (some ⟨K.n.X, 0, none⟩), .int .i64 2] w fun e w' =>
    e = .returned (.tuple #[.string (K.next σ 2).2.1, .bool (K.next σ 2).2.2]) ∧ JAt w' N K (K.next σ 2).1 ∧ Chg (jS N K) w w' := jtake_any N K σ 2 w h
theorem jskip1_any (N : Nat) (K : JK) (σ : JS) (w : World) (h : JAt w N K σ) : Calls Tryz.prog 70 #[.pointer (some ⟨K.n.X, 0, none⟩), .int .i64 1] w fun e w' =>
    e = .returned (.bool (K.next σ 1).2.2) ∧ JAt w' N K (K.next σ 1).1 ∧ Chg (jS N K) w w' := jskip_any N K σ 1 w h
theorem jnext_str {w : World} {N : Nat} {K : JK} {σ : JS} (h : JAt w N K σ) (n : Nat) (hk : (K.next σ n).2.2 = true) : (K.next σ n).2.1.size = n ∧ (∀ k, k < n → byN (K.next σ n).2.1 k = byN K.x.s (σ.a + k)) ∧ (K.next σ n).1.x = σ.x ∧ (K.next σ n).1.y = σ.y ∧ (K.next σ n).1.a = σ.a + n ∧ (K.next σ n).1.d = σ.d := by
  have hes : K.x.e ≤ K.x.s.size := h.pr.src.ok.es
  have hpe : σ.a ≤ K.x.e := h.pr.src.ok.pe
  unfold JK.next at hk ⊢
  by_cases hc : (σ.l.work 1).2 = true ∧ n ≤ K.x.e - σ.a
  · rw [if_pos hc]
    have h2 := hc.2
    refine ⟨by show (K.x.s.extract σ.a (σ.a + n)).size = n; rw [ByteArray.size_extract]; omega, fun k hk2 => ?_, rfl, rfl, rfl, rfl⟩
    show byN (K.x.s.extract σ.a (σ.a + n)) k = _
    exact byN_ext K.x.s σ.a (σ.a + n) k (by omega) (by omega)
  · rw [if_neg hc] at hk; cases hk
theorem not_jS {N : Nat} {K : JK} {d b : Nat} (h : JLt N K d) (hb : d ≤ b) : ¬ jS N K b := by
  obtain ⟨l1, l2, l3, l4, l5, l6, l7, l8, l9⟩ := h
  unfold jS; omega
theorem each_is {K : JK} (hd : K.n.dp = 8 ∨ K.n.dp = 4) : (K.n.dp = 8 ∧ K.each = 1) ∨ (K.n.dp = 4 ∧ K.each = 2) := by
  unfold JK.each
  rcases hd with h | h
  · left; rw [h]; exact ⟨rfl, by simp⟩
  · right; rw [h]; exact ⟨rfl, by simp⟩
theorem ft_ne (K : JK) (l : Led) (a : Nat) : (K.ft l a).1 ≠ 0 := by unfold JK.ft; split <;> (intro h; cases h)
theorem put_xy {K : JK} {σ : JS} {c0 c1 c2 c3 : Int} (h : (K.put σ c0 c1 c2 c3).2.1 = 0) : (K.put σ c0 c1 c2 c3).1.x = σ.x + 1 ∧ (K.put σ c0 c1 c2 c3).1.y = σ.y := by
  unfold JK.put at h ⊢
  by_cases hk : (σ.l.work 1).2 = true
  · rw [if_pos hk]; exact ⟨rfl, rfl⟩
  · rw [if_neg hk] at h; exact absurd h (ft_ne _ _ _)
def entC (s : ByteArray) : List Value := [.int .u8 (byN s 2), .int .u8 (byN s 1), .int .u8 (byN s 0), .int .u8 255]
set_option maxRecDepth 100000 in
set_option maxHeartbeats 4000000 in
theorem entry10_any (s : ByteArray) (k : Int) (w : World) (hs : 3 ≤ s.size) (hk : k = 3 ∨ k = 4) : Calls Tryz.prog 104 #[.string s, .int .i64 k] w (RA w (entC s)) := by
  have e2 : (k == 2) = false := by rcases hk with rfl | rfl <;> rfl
  have e5 : (k == 5) = false := by rcases hk with rfl | rfl <;> rfl
  have q0 : 0 < s.size := by omega
  have q1 : 1 < s.size := by omega
  have q2 : 2 < s.size := by omega
  have O4 := Hi (obj1_new w #[.int .u8 0, .int .u8 0, .int .u8 0, .int .u8 0] 185)
  have BL := Hi ((Below.refl w.heap.size w).alloc (Nat.le_refl _) (.cells #[.int .u8 0, .int .u8 0, .int .u8 0, .int .u8 0] 185))
  have g0 := byN_get s 0 q0
  have g1 := byN_get s 1 q1
  have g2 := byN_get s 2 q2
  clear hk hs
  go_enter Tryz.func104, Tryz.ntmps104
  go_upto_region 4 with (fail)
  generalize World.alloc _ _ = w1 at O4 BL ⊢
  refine wp_region_noPanic ?_
  refine wp_region_held_drew (S := fun w' => True) (by kernel_rfl) trivial (fun hHeld => ?_)
  refine wpAnyH_take (i := 0) (v := .string s) rfl (by kernel_rfl) (by kernel_rfl) (by kernel_rfl) (fun _ _ _ h => h) (Or.inl ⟨by rfl, fun w hS => by go_simp⟩) hHeld ?_
  simp only [Act.put, zq1, zq2, zq3, zq4, zq5, zq6]
  refine wpAnyH_take (i := 1) (v := .int .u8 (byN s 2)) rfl (by kernel_rfl) (by kernel_rfl) (by kernel_rfl) (fun _ _ _ h => h) (Or.inl ⟨by rfl, fun wx _ => by (go_simp) <;> first | rfl | assumption | (intro hh; exfalso; omega)⟩) hHeld ?_
  simp only [Act.put, zq1, zq2, zq3, zq4, zq5, zq6]
  refine wpAnyH_take (i := 2) (v := .string s) rfl (by kernel_rfl) (by kernel_rfl) (by kernel_rfl) (fun _ _ _ h => h) (Or.inl ⟨by rfl, fun w hS => by go_simp⟩) hHeld ?_
  simp only [Act.put, zq1, zq2, zq3, zq4, zq5, zq6]
  refine wpAnyH_take (i := 3) (v := .int .u8 (byN s 1)) rfl (by kernel_rfl) (by kernel_rfl) (by kernel_rfl) (fun _ _ _ h => h) (Or.inl ⟨by rfl, fun wx _ => by (go_simp) <;> first | rfl | assumption | (intro hh; exfalso; omega)⟩) hHeld ?_
  simp only [Act.put, zq1, zq2, zq3, zq4, zq5, zq6]
  refine wpAnyH_take (i := 4) (v := .string s) rfl (by kernel_rfl) (by kernel_rfl) (by kernel_rfl) (fun _ _ _ h => h) (Or.inl ⟨by rfl, fun w hS => by go_simp⟩) hHeld ?_
  simp only [Act.put, zq1, zq2, zq3, zq4, zq5, zq6]
  refine wpAnyH_take (i := 5) (v := .int .u8 (byN s 0)) rfl (by kernel_rfl) (by kernel_rfl) (by kernel_rfl) (fun _ _ _ h => h) (Or.inl ⟨by rfl, fun wx _ => by (go_simp) <;> first | rfl | assumption | (intro hh; exfalso; omega)⟩) hHeld ?_
  simp only [Act.put, zq1, zq2, zq3, zq4, zq5, zq6]
  refine wpAnyH_take (i := 6) (v := .agg (List.toArray [.int .u8 (byN s 2), .int .u8 (byN s 1), .int .u8 (byN s 0), .int .u8 255])) rfl (by kernel_rfl) (by kernel_rfl) (by kernel_rfl) (fun _ _ _ h => h) (Or.inl ⟨by rfl, fun w hS => by go_simp⟩) hHeld ?_
  simp only [Act.put, zq1, zq2, zq3, zq4, zq5, zq6]
  have O4 := Hi (O4.out.drew)
  have BL := Hi BL.out.drew
  generalize World.drew _ = wk at O4 BL ⊢
  refine wpAnyH_ready (rs := [7]) (by kernel_rfl) (by simp) ?_
  refine AllReadyH.cons (o := _) rfl (fun K' hK => ?_) AllReadyH.nil
  go_simp
  have O6 := Hi (obj1_new wk #[.int .u8 0, .int .u8 0, .int .u8 0, .int .u8 0] 185)
  have l6k := O4.out.lt
  have O4 := Hi (O4.out.alloc (.cells #[.int .u8 0, .int .u8 0, .int .u8 0, .int .u8 0] 185))
  have BL := Hi (BL.out.alloc BL.out.size (.cells #[.int .u8 0, .int .u8 0, .int .u8 0, .int .u8 0] 185))
  obtain ⟨d, hd⟩ : ∃ d, wk.heap.size = d := ⟨_, rfl⟩
  have hdw : w.heap.size ≤ d := by rw [← hd]; omega
  rw [hd] at O6 l6k ⊢
  clear hd
  generalize World.alloc wk _ = wk2 at O4 O6 BL ⊢
  refine hK _ _ trivial (fun hA1 => ?_)
  clear hK K'
  try simp only [Act.put, zq1, zq2, zq3, zq4, zq5, zq6]
  obtain ⟨wk, rfl⟩ : ∃ z, z = wk2 := ⟨_, rfl⟩
  refine wpAnyH_ready (rs := [8]) (by kernel_rfl) (by simp) ?_
  refine AllReadyH.cons (o := _) rfl (fun K' hK => ?_) AllReadyH.nil
  rw [if_pos (by rfl)]
  refine wp_store_mid 185 _ _ rfl (d) 0 (List.toArray [.int .u8 (byN s 2), .int .u8 (byN s 1), .int .u8 (byN s 0), .int .u8 255]) rfl rfl (O6.out.there 0 4 (by simp)) (by kernel_rfl) (all_oneCell_toArray (List.all_eq_true.1 (by rfl))) ?_
  simp only [Act.put, zq1, zq2, zq3, zq4, zq5, zq6]
  have hst : Stored wk (d) 0 [.int .u8 (byN s 2), .int .u8 (byN s 1), .int .u8 (byN s 0), .int .u8 255] (wk.setCells (d) 0 [.int .u8 (byN s 2), .int .u8 (byN s 1), .int .u8 (byN s 0), .int .u8 255]) := rfl
  have O6 := Hi (hst.whole O6.out (by first | rfl | simp))
  have O4 := Hi (hst.oth O4.out (by omega))
  have BL := Hi (hst.below BL.out (by omega))
  generalize World.setCells _ _ _ _ = wk2 at O4 O6 BL ⊢
  clear hst
  refine hK _ _ trivial (fun hH1 => ?_)
  clear hK K'
  obtain ⟨wk, rfl⟩ : ∃ z, z = wk2 := ⟨_, rfl⟩
  refine wpAnyH_done (by kernel_rfl) ?_ _
  refine NoPanic.normal ?_
  go_upto_region 7 with (fail)
  go_wp2_with (first
    | (refine load_u (by kernel_rfl) 185 4 _ rfl d [.int .u8 (byN s 2), .int .u8 (byN s 1), .int .u8 (byN s 0), .int .u8 255] rfl rfl O6.out Tryz.underlying185 rfl (by kernel_rfl) ?_; intro _)
    | (refine store_o rfl 185 4 _ _ rfl w.heap.size [.int .u8 (byN s 2), .int .u8 (byN s 1), .int .u8 (byN s 0), .int .u8 255] rfl rfl (by kernel_rfl) (by kernel_rfl) (by kernel_rfl) O4.out (by first | rfl | simp) ?_; intro ws hst hO; have O4 := Hi hO; have O6 := Hi (hst.oth O6.out (by omega)); have BL := Hi (hst.below BL.out (by omega)); clear hst hO))
  refine bodyPost_ret (v := .agg (List.toArray [.int .u8 (byN s 2), .int .u8 (byN s 1), .int .u8 (byN s 0), .int .u8 255])) ?_ rfl ⟨rfl, BL.out⟩
  exact results_c Tryz.results104 _ _ _ [.int .u8 (byN s 2), .int .u8 (byN s 1), .int .u8 (byN s 0), .int .u8 255] _ rfl O4.out.range0 Tryz.underlying185 rfl (by kernel_rfl)
theorem owns_under {w w' : World} {base e sz n : Nat} {v : Value} {xs : List Value} (h : w.ownsRow base e sz v n xs) (hb : Below w.heap.size w w') : w'.ownsRow base e sz v n xs := by
  obtain ⟨hl, h2⟩ := h
  refine ⟨hl, ?_⟩
  rcases h2 with h2 | ⟨g, cap, cur, rfl, hg, hh, rest⟩
  · exact Or.inl h2
  · exact Or.inr ⟨g, cap, cur, rfl, hg, (hb.block g (Array.getElem?_eq_some_iff.1 hh).1).trans hh, rest⟩
theorem appS {P : Program} {ops : Array Oper} {rest : List Oper} {o : Oper} {a : Act} {Q : Exit → Act → World → Prop} (hgd : o.guard = none) (s x : Operand) (t : TypeId)
    (ho : o.op = .call { callee := .builtin .append, args := #[s, x], argTypes := #[t, t] })
    (base : Nat) (e : TypeId) (z : Value) (sz bytes : Nat) (ht : P.underlying t = some (.slice e)) (hi : (P.info? e).map (fun i => (i.zero, i.size, i.bytes)) = some (some z, sz, bytes)) (hz1 : z.cells.size = sz) (hs0 : 0 < sz)
    (v : Value) (n : Nat) (xs : List Value) (hs : a.eval s = v) {wr : World} (hown : wr.ownsRow base e sz v n xs) (C : List Value) (hC : ∀ u ∈ C, u.oneCell' = true) (hCl : C.length = 1 * sz) (T : TypeId)
    (hx : a.eval x = .slice (some ⟨wr.heap.size, 0, none⟩) 1 1) (hn : (n + 1) * bytes ≤ 140737488355328) (hn2 : n + 1 ≤ maxLen) (hbase : base ≤ wr.heap.size)
    (h : ∀ v' w', w'.ownsRow base e sz v' (n + 1) (xs ++ C) → (∀ W, Below base W wr → Below base W w') → base ≤ w'.heap.size → wpList P ops Q rest (a.put o.dst v') w') :
    wpList P ops Q (o :: rest) a (wr.alloc (.cells C.toArray T)) := by
  obtain ⟨i, i1, i2, i3, i4⟩ := info_parts hi
  have hz : wr.heap.size < (wr.alloc (.cells C.toArray T)).heap.size := by simp
  refine wpList_append_own _ hgd s x t ho base e i z sz bytes ht i1 i2 i3 i4 hz1 hs0 v n xs hs (hown.alloc _) ⟨wr.heap.size, 0, none⟩ 1 1 C hx hCl ?_ hC hn2 hn (by omega) ?_
  · intro j u hj
    exact news_obj (obj1_new wr C.toArray T) j u hj
  · intro v' w' hown' hgrow _
    refine h v' w' hown' (fun W hB => ?_) (Nat.le_trans (by omega) hgrow.size)
    refine (hB.alloc hbase _).grown hgrow (by omega) ?_
    intro k hk
    obtain ⟨_, h2⟩ := hown
    rcases h2 with ⟨rfl, _⟩ | ⟨g, cap, cur, rfl, hg, _⟩
    · simp [Value.ownBlock] at hk
    · simp [Value.ownBlock] at hk; omega
theorem owns_empty3 (w : World) (T : TypeId) (size : Nat) : (w.alloc (.cells #[] T)).ownsRow w.heap.size T size (.slice (some ⟨w.heap.size, 0, none⟩) 0 0) 0 [] :=
  ⟨by simp, Or.inr ⟨w.heap.size, 0, #[], rfl, Nat.le_refl _, heap_alloc_new w _, Nat.le_refl _, Nat.zero_le _, by simp, by simp⟩⟩
def colsL (s : ByteArray) (k : Nat) : Nat → List Value
  | 0 => []
  | m + 1 => colsL s k m ++ entC (s.extract (m * k) s.size)
def Read10Post (w : World) (s : ByteArray) (k m : Nat) (e : Ending) (w' : World) : Prop := ∃ v, e = .returned v ∧ w'.ownsRow w.heap.size 185 4 v m (colsL s k m) ∧ Below w.heap.size w w'
set_option maxRecDepth 100000 in
set_option maxHeartbeats 4000000 in
theorem read10_any (s : ByteArray) (n k m : Nat) (w : World) (hk : k = 3 ∨ k = 4) (hn : n ≤ 1000000) (hs : s.size ≤ 9223372036854775807) (hm : m ≤ n) (hm2 : m * k ≤ s.size) (hend : m = n ∨ s.size < m * k + k) :
    Calls Tryz.prog 92 #[.string s, .int .i64 n, .int .i64 k] w (Read10Post w s k m) := by
  have HSZ := Hi (fun w0 => (show Calls Tryz.prog 160 #[.int .i64 k] w0 fun e w' => e = .returned (.int .i64 k) ∧ w' = w0 by
    rcases hk with rfl | rfl
    · exact size10_3 w0
    · exact size10_4 w0))
  have HEN := Hi (fun t w0 (ht : 3 ≤ t.size) => entry10_any t k w0 ht (by omega))
  have HEND := Hi hend
  have hO := owns_empty3 w 185 4
  have HK := Hi hk
  have hk4 : k ≤ 4 := by omega
  have hk3 : 3 ≤ k := by omega
  clear hend hk
  go_enter Tryz.func92, Tryz.ntmps92
  go_wp2_with ((go_at_call 160; (with_reducible refine (HSZ.out _).mono ?_); rintro e w2 ⟨rfl, rfl⟩))
  go_loopw [7, 9] (fun v c wr => ∃ i : Nat, i ≤ m ∧ c = .int .i64 i ∧ wr.ownsRow w.heap.size 185 4 v i (colsL s k i) ∧ Below w.heap.size w wr) (fun _ c _ => m - (intOf c).toNat)
  case atStart => exact ⟨0, by omega, by first | rfl | simp, hO, (Below.refl _ _).alloc (Nat.le_refl _) _⟩
  case round =>
    obtain ⟨i, hi, rfl, hown, hb⟩ := hrel
    have HO := Hi hown
    have HB := Hi hb
    have hsz := hb.size
    clear hown hb hO
    have hik : i * k ≤ m * k := Nat.mul_le_mul_right k hi
    obtain ⟨q, hq⟩ : ∃ q, i * k = q := ⟨_, rfl⟩
    have eM : (i : Int) * (k : Int) = (q : Int) := by rw [← hq]; exact (Int.natCast_mul i k).symm
    have hq4 : q ≤ 4000000 := by rw [← hq]; exact Nat.le_trans (Nat.mul_le_mul (show i ≤ 1000000 by omega) hk4) (by decide)
    have eW : IntKind.i64.wrap ((i : Int) * (k : Int)) = (q : Int) := by rw [eM]; exact i64_wraps _ (by omega) (by omega)
    have eS : IntKind.i64.wrap ((s.size : Int) - (q : Int)) = (s.size : Int) - q := i64_wraps _ (by omega) (by omega)
    by_cases hlt : i < m
    rotate_left
    · obtain rfl : i = m := by omega
      rw [hq] at HEND hm2
      clear hlt hi
      by_cases hin : i < n
      · have T2 : ¬ ((k : Int) ≤ (s.size : Int) - q) := by have := HEND.out; omega
        have T3 : (s.size : Int) - q < k := by omega
        clear hm2
        go_wp2_with ((with_reducible refine skip_g rfl ?_ ?_); rfl; intro _)
        go_ret
        exact ⟨_, rfl, HO.out, HB.out⟩
      · go_wp2_with ((with_reducible refine skip_g rfl ?_ ?_); rfl; intro _)
        go_ret
        exact ⟨_, rfl, HO.out, HB.out⟩
    · have h1 : i + 1 ≤ m := hlt
      have h2 := Nat.mul_le_mul_right k h1
      rw [Nat.add_mul, Nat.one_mul, hq] at h2
      have hqs : q + k ≤ s.size := by omega
      have T1 : i < n := by omega
      have T2 : (k : Int) ≤ (s.size : Int) - q := by omega
      have T3 : (q : Int) ≤ s.size := by omega
      have hes : 3 ≤ (s.extract q s.size).size := by rw [ByteArray.size_extract]; omega
      have HE := Hi (fun w0 => (show Calls Tryz.prog 104 #[.string (s.extract q s.size), .int .i64 k] w0 (RA w0 [.int .u8 (byN (s.extract q s.size) 2), .int .u8 (byN (s.extract q s.size) 1), .int .u8 (byN (s.extract q s.size) 0), .int .u8 255]) from HEN.out _ w0 hes))
      have HCS := Hi (show colsL s k (i + 1) = colsL s k i ++ [.int .u8 (byN (s.extract q s.size) 2), .int .u8 (byN (s.extract q s.size) 1), .int .u8 (byN (s.extract q s.size) 0), .int .u8 255] by rw [colsL, hq]; rfl)
      clear hes h1 h2 hik
      go_wp2_with (first
        | ((go_at_call 104; (with_reducible refine (HE.out _).mono ?_); rintro e w5 ⟨rfl, hb5⟩); have HO5 := Hi (owns_under HO.out hb5); have HB5 := Hi (bthen hb5 HB.out HB.out.size); have hsz5 := HB5.out.size; clear hb5)
        | (at_builtin; refine appS rfl (.tmp 28) (.tmp 36) 54 rfl w.heap.size 185 (.agg #[.int .u8 0, .int .u8 0, .int .u8 0, .int .u8 0]) 4 4 Tryz.underlying54 (by kernel_rfl) rfl (by decide) _ _ _ rfl HO5.out [.int .u8 (byN (s.extract q s.size) 2), .int .u8 (byN (s.extract q s.size) 1), .int .u8 (byN (s.extract q s.size) 0), .int .u8 255] (by intro u hu; simp at hu; rcases hu with rfl | rfl | rfl | rfl <;> rfl) rfl _ rfl (by omega) (by unfold maxLen; omega) hsz5 ?_; intro v' w1 hown1 hB1 hz1; have O1 := Hi hown1; have B1 := Hi hB1; clear hown1 hB1))
      go_roundw
      case rel => exact ⟨i + 1, by omega, by go_num, by rw [HCS.out]; exact O1.out, B1.out w HB5.out⟩
      case measure => simp [intOf]; omega
end Go.Proofs.YtlfbaggcfaenlaaGreat

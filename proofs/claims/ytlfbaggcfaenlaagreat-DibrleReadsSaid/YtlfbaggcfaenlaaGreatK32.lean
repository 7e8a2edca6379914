/- dibhead.Bytes: the closure that puts four bytes; again: walked. -/
import Derived.Test.YtlfbaggcfaenlaaGreatK17
import Derived.Test.YtlfbaggcfaenlaaGreatK31
import Derived.Test.YtlfbaggcfaenlaaGreatK1
import Derived.Test.YtlfbaggcfaenlaaGreatK12
import Derived.Laws.StructEq
import Derived.Test.YtlfbaggcfaenlaaGreatK30
import Derived.Test.YtlfbaggcfaenlaaGreatK0
namespace Go.Proofs.YtlfbaggcfaenlaaGreat
open Go.RowKit
set_option linter.unusedVariables false
set_option linter.unusedSimpArgs false
theorem map_set {α β : Type} (f : α → β) (L : List α) (i : Nat) (x : α) : (L.map f).set i (f x) = (L.set i x).map f := by simp
theorem Obj1.setL {w : World} {g : Nat} {L : List Int} {T : TypeId} (h : Obj1 w g (L.map (.int .u8)).toArray T) (i : Nat) (x : Int) : Obj1 (w.setCell ⟨g, i, none⟩ (.int .u8 x)) g ((L.set i x).map (.int .u8)).toArray T := by
  have h1 := h.set i (.int .u8 x)
  rw [List.setIfInBounds_toArray, map_set] at h1
  exact h1
end Go.Proofs.YtlfbaggcfaenlaaGreat
namespace Go.Proofs.YtlfbaggcfaenlaaGreat
open Go.RowKit
set_option linter.unusedVariables false
set_option linter.unusedSimpArgs false
section
variable (n : Nat) (W h dp mt co : Int) (hn : 40 ≤ n)
end
structure OutIs (S : ByteArray) (W h dp mt co : Int) : Prop where
  z : S.size = if mt = 3 then 52 else 40
  f0 : lowK S 0 4 = 40
  f4 : lowK S 4 4 = W % 4294967296
  f8 : lowK S 8 4 = h % 4294967296
  f12 : lowK S 12 2 = 1
  f14 : lowK S 14 2 = dp % 65536
  f16 : lowK S 16 4 = mt % 4294967296
  f32 : lowK S 32 4 = co % 4294967296
end Go.Proofs.YtlfbaggcfaenlaaGreat
namespace Go.Proofs.YtlfbaggcfaenlaaGreat
open Go.RowKit
set_option linter.unusedVariables false
set_option linter.unusedSimpArgs false
def putC (xs : List Value) (p : Nat) (c : List Value) : List Value := xs.take p ++ (c ++ xs.drop (p + c.length))
theorem putC_len (xs : List Value) (p : Nat) (c : List Value) (h : p + c.length ≤ xs.length) : (putC xs p c).length = xs.length := by
  unfold putC; rw [List.length_append, List.length_append, List.length_take, List.length_drop]; omega
theorem putC_get (xs : List Value) (p : Nat) (c : List Value) (h : p + c.length ≤ xs.length) (i : Nat) : (putC xs p c)[i]? = if p ≤ i ∧ i < p + c.length then c[i - p]? else xs[i]? := by
  unfold putC
  by_cases h1 : i < p
  · rw [List.getElem?_append_left (by rw [List.length_take]; omega), if_neg (by omega), List.getElem?_take, if_pos h1]
  · rw [List.getElem?_append_right (by rw [List.length_take]; omega), List.length_take, show i - min p xs.length = i - p by omega]
    by_cases h2 : i < p + c.length
    · rw [List.getElem?_append_left (by omega), if_pos (by omega)]
    · rw [List.getElem?_append_right (by omega), if_neg (by omega), List.getElem?_drop]; congr 1; omega
theorem putC_all {xs c : List Value} {p : Nat} (hx : ∀ u ∈ xs, u.oneCell' = true) (hc : ∀ u ∈ c, u.oneCell' = true) : ∀ u ∈ putC xs p c, u.oneCell' = true := by
  intro u hu
  unfold putC at hu
  rw [List.mem_append, List.mem_append] at hu
  rcases hu with hu | hu | hu
  · exact hx u (List.mem_of_mem_take hu)
  · exact hc u hu
  · exact hx u (List.mem_of_mem_drop hu)
theorem putC_nil (xs : List Value) (p : Nat) : putC xs p [] = xs := by
  unfold putC; simp
theorem putC_putC (xs : List Value) (p : Nat) (c e : List Value) (h : p + c.length + e.length ≤ xs.length) : putC (putC xs p c) (p + c.length) e = putC xs p (c ++ e) := by
  apply List.ext_getElem?
  intro i
  rw [putC_get _ _ _ (by rw [putC_len _ _ _ (by omega)]; omega), putC_get _ _ _ (by omega), putC_get _ _ _ (by rw [List.length_append]; omega), List.length_append]
  by_cases h1 : p + c.length ≤ i ∧ i < p + c.length + e.length
  · rw [if_pos h1, if_pos (by omega), List.getElem?_append_right (by omega)]; congr 1; omega
  · rw [if_neg h1]
    by_cases h2 : p ≤ i ∧ i < p + c.length
    · rw [if_pos h2, if_pos (by omega), List.getElem?_append_left (by omega)]
    · rw [if_neg h2, if_neg (by omega)]
structure S22 where
  x : Nat
  y : Nat
  pl : Nat
  L : List Value
def pxC (tb : List Value) (k : Nat) : List Value := (tb.drop (4 * k)).take 4
theorem pxC_len (tb : List Value) (M k : Nat) (h : tb.length = 4 * M) (hk : k < M) : (pxC tb k).length = 4 := by
  unfold pxC; rw [List.length_take, List.length_drop]; omega
theorem pxC_all {tb : List Value} {k : Nat} (h : ∀ u ∈ tb, u.oneCell' = true) : ∀ u ∈ pxC tb k, u.oneCell' = true := fun u hu => h u (List.mem_of_mem_drop (List.mem_of_mem_take hu))
abbrev E22 := Except (Int × Int)
def runP (tb : List Value) (M : Nat) (b d : Int) (pl : Nat) : Nat → E22 (List Value)
  | 0 => .ok []
  | n + 1 => match runP tb M b d pl n with
    | .error e => .error e
    | .ok p => if (entR b d n).toNat < M then .ok (p ++ pxC tb (entR b d n).toNat) else .error (2, (pl : Int) + 1)
theorem runP_err (tb : List Value) (M : Nat) (b d : Int) (pl i k : Nat) (e : Int × Int) (h : runP tb M b d pl i = .error e) : runP tb M b d pl (i + k) = .error e := by
  induction k with
  | zero => exact h
  | succ k ih => rw [← Nat.add_assoc, runP, ih]
theorem runP_len (tb : List Value) (M : Nat) (b d : Int) (pl : Nat) (hT : tb.length = 4 * M) (n : Nat) : ∀ p, runP tb M b d pl n = .ok p → p.length = 4 * n := by
  induction n with
  | zero => intro p h; rw [runP] at h; injection h with h; rw [← h]; rfl
  | succ n ih =>
    intro p h
    rw [runP] at h
    cases hr : runP tb M b d pl n with
    | error e => rw [hr] at h; cases h
    | ok q =>
      rw [hr] at h; dsimp only at h
      by_cases hk : (entR b d n).toNat < M
      · rw [if_pos hk] at h; injection h with h
        rw [← h, List.length_append, ih q hr, pxC_len tb M _ hT hk]; omega
      · rw [if_neg hk] at h; cases h
theorem runP_all (tb : List Value) (M : Nat) (b d : Int) (pl : Nat) (hT : ∀ u ∈ tb, u.oneCell' = true) (n : Nat) : ∀ p, runP tb M b d pl n = .ok p → ∀ u ∈ p, u.oneCell' = true := by
  induction n with
  | zero => intro p h; rw [runP] at h; injection h with h; rw [← h]; intro u hu; cases hu
  | succ n ih =>
    intro p h
    rw [runP] at h
    cases hr : runP tb M b d pl n with
    | error e => rw [hr] at h; cases h
    | ok q =>
      rw [hr] at h; dsimp only at h
      by_cases hk : (entR b d n).toNat < M
      · rw [if_pos hk] at h; injection h with h
        rw [← h]; intro u hu
        rcases List.mem_append.1 hu with hu | hu
        · exact ih q hr u hu
        · exact pxC_all hT u hu
      · rw [if_neg hk] at h; cases h
def plainP (s : ByteArray) (tb : List Value) (M : Nat) (d : Int) (pl te : Nat) : Nat → E22 (List Value)
  | 0 => .ok []
  | n + 1 => match plainP s tb M d pl te n with
    | .error e => .error e
    | .ok p => if te ≤ pl + 2 + n / (8 / d).toNat then .error (1, te) else
      if (entR (byN s (pl + 2 + n / (8 / d).toNat)) d n).toNat < M then .ok (p ++ pxC tb (entR (byN s (pl + 2 + n / (8 / d).toNat)) d n).toNat) else .error (2, (pl : Int) + 2 + (n / (8 / d).toNat : Nat))
theorem plainP_err (s : ByteArray) (tb : List Value) (M : Nat) (d : Int) (pl te i k : Nat) (e : Int × Int) (h : plainP s tb M d pl te i = .error e) : plainP s tb M d pl te (i + k) = .error e := by
  induction k with
  | zero => exact h
  | succ k ih => rw [← Nat.add_assoc, plainP, ih]
theorem plainP_len (s : ByteArray) (tb : List Value) (M : Nat) (d : Int) (pl te : Nat) (hT : tb.length = 4 * M) (n : Nat) : ∀ p, plainP s tb M d pl te n = .ok p → p.length = 4 * n := by
  induction n with
  | zero => intro p h; rw [plainP] at h; injection h with h; rw [← h]; rfl
  | succ n ih =>
    intro p h
    rw [plainP] at h
    cases hr : plainP s tb M d pl te n with
    | error e => rw [hr] at h; cases h
    | ok q =>
      rw [hr] at h; dsimp only at h
      by_cases hb : te ≤ pl + 2 + n / (8 / d).toNat
      · rw [if_pos hb] at h; cases h
      rw [if_neg hb] at h
      by_cases hk : (entR (byN s (pl + 2 + n / (8 / d).toNat)) d n).toNat < M
      · rw [if_pos hk] at h; injection h with h
        rw [← h, List.length_append, ih q hr, pxC_len tb M _ hT hk]; omega
      · rw [if_neg hk] at h; cases h
theorem plainP_all (s : ByteArray) (tb : List Value) (M : Nat) (d : Int) (pl te : Nat) (hT : ∀ u ∈ tb, u.oneCell' = true) (n : Nat) : ∀ p, plainP s tb M d pl te n = .ok p → ∀ u ∈ p, u.oneCell' = true := by
  induction n with
  | zero => intro p h; rw [plainP] at h; injection h with h; rw [← h]; intro u hu; cases hu
  | succ n ih =>
    intro p h
    rw [plainP] at h
    cases hr : plainP s tb M d pl te n with
    | error e => rw [hr] at h; cases h
    | ok q =>
      rw [hr] at h; dsimp only at h
      by_cases hb : te ≤ pl + 2 + n / (8 / d).toNat
      · rw [if_pos hb] at h; cases h
      rw [if_neg hb] at h
      by_cases hk : (entR (byN s (pl + 2 + n / (8 / d).toNat)) d n).toNat < M
      · rw [if_pos hk] at h; injection h with h
        rw [← h]; intro u hu
        rcases List.mem_append.1 hu with hu | hu
        · exact ih q hr u hu
        · exact pxC_all hT u hu
      · rw [if_neg hk] at h; cases h
def run22 (s : ByteArray) (tb : List Value) (M W H : Nat) (d : Int) (σ : S22) (n : Nat) : E22 S22 :=
  if H ≤ σ.y ∨ W < σ.x + n then .error (2, σ.pl) else
  match runP tb M (byN s (σ.pl + 1)) d σ.pl n with
  | .error e => .error e
  | .ok p => .ok ⟨σ.x + n, σ.y, σ.pl + 2, putC σ.L (4 * ((H - 1 - σ.y) * W + σ.x)) p⟩
def sizeP (d : Int) (n : Nat) : Nat := (n + (8 / d).toNat - 1) / (8 / d).toNat
def plain22 (s : ByteArray) (tb : List Value) (M W H : Nat) (d : Int) (te : Nat) (σ : S22) (n : Nat) : E22 S22 :=
  if H ≤ σ.y ∨ W < σ.x + n then .error (2, σ.pl) else
  match plainP s tb M d σ.pl te n with
  | .error e => .error e
  | .ok p => if te < σ.pl + 2 + sizeP d n + sizeP d n % 2 then .error (1, te) else .ok ⟨σ.x + n, σ.y, σ.pl + 2 + sizeP d n + sizeP d n % 2, putC σ.L (4 * ((H - 1 - σ.y) * W + σ.x)) p⟩
def move22 (W H : Nat) (x y pl pl0 : Nat) (L : List Value) : E22 S22 := if W < x ∨ H < y then .error (2, pl0) else .ok ⟨x, y, pl, L⟩
def step22 (s : ByteArray) (tb : List Value) (M W H : Nat) (d : Int) (te : Nat) (σ : S22) : E22 S22 :=
  if 0 < byN s σ.pl then run22 s tb M W H d σ (byN s σ.pl).toNat else
  if 2 < byN s (σ.pl + 1) then plain22 s tb M W H d te σ (byN s (σ.pl + 1)).toNat else
  if byN s (σ.pl + 1) = 0 then move22 W H 0 (σ.y + 1) (σ.pl + 2) σ.pl σ.L else
  if te < σ.pl + 4 then .error (1, te) else move22 W H (σ.x + (byN s (σ.pl + 2)).toNat) (σ.y + (byN s (σ.pl + 3)).toNat) (σ.pl + 4) σ.pl σ.L
def rle22 (s : ByteArray) (tb : List Value) (M W H : Nat) (d : Int) (te : Nat) : Nat → S22 → E22 (List Value)
  | 0, σ => .error (1, te)
  | f + 1, σ => if te < σ.pl + 2 then .error (1, te) else
    if byN s σ.pl = 0 ∧ byN s (σ.pl + 1) = 1 then .ok σ.L else
    match step22 s tb M W H d te σ with
    | .error e => .error e
    | .ok τ => rle22 s tb M W H d te f τ
def Good22 (W H te : Nat) (σ : S22) : Prop := σ.x ≤ W ∧ σ.y ≤ H ∧ σ.pl ≤ te ∧ σ.L.length = 4 * (W * H) ∧ ∀ u ∈ σ.L, u.oneCell' = true
theorem place_in {W H x y n : Nat} (hy : y < H) (hx : x + n ≤ W) : (H - 1 - y) * W + x + n ≤ W * H := by
  have h1 : (H - 1 - y + 1) * W ≤ H * W := Nat.mul_le_mul_right W (by omega)
  rw [Nat.add_mul, Nat.one_mul] at h1
  rw [Nat.mul_comm W H]; omega
theorem run22_good {s : ByteArray} {tb : List Value} {M W H : Nat} {d : Int} {te : Nat} {σ τ : S22} {n : Nat} (hT : tb.length = 4 * M) (hT2 : ∀ u ∈ tb, u.oneCell' = true) (h : Good22 W H te σ) (hp : σ.pl + 2 ≤ te) (hr : run22 s tb M W H d σ n = .ok τ) : Good22 W H te τ ∧ σ.pl < τ.pl := by
  unfold run22 at hr
  by_cases h1 : H ≤ σ.y ∨ W < σ.x + n
  · rw [if_pos h1] at hr; cases hr
  rw [if_neg h1] at hr
  cases hq : runP tb M (byN s (σ.pl + 1)) d σ.pl n with
  | error e => rw [hq] at hr; cases hr
  | ok p =>
    rw [hq] at hr; injection hr with hr
    have hl := runP_len _ _ _ _ _ hT _ p hq
    have ha := runP_all _ _ _ _ _ hT2 _ p hq
    obtain ⟨h2, h3, h4, h5, h6⟩ := h
    have h7 := place_in (W := W) (H := H) (x := σ.x) (y := σ.y) (n := n) (by omega) (by omega)
    rw [← hr]
    refine ⟨⟨?_, h3, hp, ?_, putC_all h6 ha⟩, by show σ.pl < σ.pl + 2; omega⟩
    · show σ.x + n ≤ W; omega
    · show (putC _ _ _).length = _; rw [putC_len _ _ _ (by rw [hl, h5]; omega)]; exact h5
theorem plain22_good {s : ByteArray} {tb : List Value} {M W H : Nat} {d : Int} {te : Nat} {σ τ : S22} {n : Nat} (hT : tb.length = 4 * M) (hT2 : ∀ u ∈ tb, u.oneCell' = true) (h : Good22 W H te σ) (hr : plain22 s tb M W H d te σ n = .ok τ) : Good22 W H te τ ∧ σ.pl < τ.pl := by
  unfold plain22 at hr
  by_cases h1 : H ≤ σ.y ∨ W < σ.x + n
  · rw [if_pos h1] at hr; cases hr
  rw [if_neg h1] at hr
  cases hq : plainP s tb M d σ.pl te n with
  | error e => rw [hq] at hr; cases hr
  | ok p =>
    rw [hq] at hr
    by_cases hz : te < σ.pl + 2 + sizeP d n + sizeP d n % 2
    · simp only [if_pos hz] at hr; cases hr
    simp only [if_neg hz] at hr
    injection hr with hr
    have hl := plainP_len _ _ _ _ _ _ hT _ p hq
    have ha := plainP_all _ _ _ _ _ _ hT2 _ p hq
    obtain ⟨h2, h3, h4, h5, h6⟩ := h
    have h7 := place_in (W := W) (H := H) (x := σ.x) (y := σ.y) (n := n) (by omega) (by omega)
    rw [← hr]
    refine ⟨⟨?_, h3, ?_, ?_, putC_all h6 ha⟩, ?_⟩
    · show σ.x + n ≤ W; omega
    · show σ.pl + 2 + sizeP d n + sizeP d n % 2 ≤ te; omega
    · show (putC _ _ _).length = _; rw [putC_len _ _ _ (by rw [hl, h5]; omega)]; exact h5
    · show σ.pl < σ.pl + 2 + sizeP d n + sizeP d n % 2; omega
theorem step22_good {s : ByteArray} {tb : List Value} {M W H : Nat} {d : Int} {te : Nat} {σ τ : S22} (hT : tb.length = 4 * M) (hT2 : ∀ u ∈ tb, u.oneCell' = true) (h : Good22 W H te σ) (hp : σ.pl + 2 ≤ te) (hr : step22 s tb M W H d te σ = .ok τ) : Good22 W H te τ ∧ σ.pl < τ.pl := by
  unfold step22 at hr
  by_cases h1 : 0 < byN s σ.pl
  · rw [if_pos h1] at hr; exact run22_good hT hT2 h hp hr
  rw [if_neg h1] at hr
  by_cases h2 : 2 < byN s (σ.pl + 1)
  · rw [if_pos h2] at hr; exact plain22_good hT hT2 h hr
  rw [if_neg h2] at hr
  have mv : ∀ x y pl, pl ≤ te → σ.pl < pl → move22 W H x y pl σ.pl σ.L = .ok τ → Good22 W H te τ ∧ σ.pl < τ.pl := by
    intro x y pl h3 h4 hm
    unfold move22 at hm
    by_cases h5 : W < x ∨ H < y
    · rw [if_pos h5] at hm; cases hm
    rw [if_neg h5] at hm
    injection hm with hm
    rw [← hm]
    exact ⟨⟨by show x ≤ W; omega, by show y ≤ H; omega, h3, h.2.2.2.1, h.2.2.2.2⟩, h4⟩
  by_cases h3 : byN s (σ.pl + 1) = 0
  · rw [if_pos h3] at hr; exact mv _ _ _ hp (by omega) hr
  rw [if_neg h3] at hr
  by_cases h4 : te < σ.pl + 4
  · rw [if_pos h4] at hr; cases hr
  rw [if_neg h4] at hr
  exact mv _ _ _ (by omega) (by omega) hr
end Go.Proofs.YtlfbaggcfaenlaaGreat

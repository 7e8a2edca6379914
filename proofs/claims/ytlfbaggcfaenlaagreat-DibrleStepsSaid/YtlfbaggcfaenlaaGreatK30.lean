/- dibhead.Bytes: the closure that puts four bytes; again: walked. -/
import Derived.Test.YtlfbaggcfaenlaaGreatK20
import Derived.Test.YtlfbaggcfaenlaaGreatK29
import Derived.Test.YtlfbaggcfaenlaaGreatK3
import Derived.Test.YtlfbaggcfaenlaaGreatK15
import Derived.Laws.StructEq
import Derived.Test.YtlfbaggcfaenlaaGreatK28
namespace Go.Proofs.YtlfbaggcfaenlaaGreat
open Go.RowKit
set_option linter.unusedVariables false
set_option linter.unusedSimpArgs false
theorem map_set {α β : Type} (f : α → β) (L : List α) (i : Nat) (x : α) : (L.map f).set i (f x) = (L.set i x).map f := by simp
theorem Obj1.setL {w : World} {g : Nat} {L : List Int} {T : TypeId} (h : Obj1 w g (L.map (.int .u8)).toArray T) (i : Nat) (x : Int) : Obj1 (w.setCell ⟨g, i, none⟩ (.int .u8 x)) g ((L.set i x).map (.int .u8)).toArray T := by
  have h1 := h.set i (.int .u8 x)
  rw [List.setIfInBounds_toArray, map_set] at h1
  exact h1
end Go.Proofs.YtlfbaggcfaenlaaGreat

namespace Go.Proofs.YtlfbaggcfaenlaaGreat
open Go.RowKit
set_option linter.unusedVariables false
set_option linter.unusedSimpArgs false
section
variable (n : Nat) (W h dp mt co : Int) (hn : 40 ≤ n)
end
/-- What is read of a head's bytes. -/
structure OutIs (S : ByteArray) (W h dp mt co : Int) : Prop where
  z : S.size = if mt = 3 then 52 else 40
  f0 : lowK S 0 4 = 40
  f4 : lowK S 4 4 = W % 4294967296
  f8 : lowK S 8 4 = h % 4294967296
  f12 : lowK S 12 2 = 1
  f14 : lowK S 14 2 = dp % 65536
  f16 : lowK S 16 4 = mt % 4294967296
  f32 : lowK S 32 4 = co % 4294967296
end Go.Proofs.YtlfbaggcfaenlaaGreat

namespace Go.Proofs.YtlfbaggcfaenlaaGreat
open Go.RowKit
set_option linter.unusedVariables false
set_option linter.unusedSimpArgs false
theorem firstW_all {L : List Fnd} (h : ∀ r ∈ L, r.1 = false) : (firstW L).2 = false := by
  induction L with
  | nil => rfl
  | cons a t ih =>
    unfold firstW
    rw [if_neg (by rw [h a List.mem_cons_self]; decide)]
    exact ih (fun r hr => h r (List.mem_cons_of_mem _ hr))
theorem rread_40 (s : ByteArray) (hl : lowK s 0 4 = 40) (hs : 40 ≤ s.size) (hF : (firstW (greatF (s.extract 0 40))).2 = false) : rRead20 s 0 = rMk s 0 (greatH (s.extract 0 40)) 40 := by
  unfold rRead20
  rw [if_neg (by omega), hl, if_neg (by decide), if_neg (by decide), if_neg (by simp; omega), if_neg (by decide)]
  rw [show (0 + (40 : Int).toNat) = 40 from rfl, if_neg (by rw [hF]; decide)]
  rfl
end Go.Proofs.YtlfbaggcfaenlaaGreat

namespace Go.Proofs.YtlfbaggcfaenlaaGreat
open Go.RowKit
set_option linter.unusedVariables false
set_option linter.unusedSimpArgs false
theorem strOf_data (L : List Int) : (strOf L).data.toList = L.map (fun n => UInt8.ofNat n.toNat) := by
  have h := fold_data3 L ByteArray.empty
  exact h
theorem strOf_app (A B : List Int) : strOf A ++ strOf B = strOf (A ++ B) := by
  apply ByteArray.ext
  apply Array.ext'
  rw [ByteArray.data_append, Array.toList_append, strOf_data, strOf_data, strOf_data, List.map_append]
theorem lowK_four (L : List Int) (i : Nat) (a b c d : Int) (ha : L[i]? = some a) (hb : L[i + 1]? = some b) (hc : L[i + 2]? = some c) (hd : L[i + 3]? = some d) (a0 : 0 ≤ a ∧ a < 256) (b0 : 0 ≤ b ∧ b < 256) (c0 : 0 ≤ c ∧ c < 256) (d0 : 0 ≤ d ∧ d < 256) :
    lowK (strOf L) i 4 = a + b * 256 + c * 65536 + d * 16777216 := by
  have e1 := byN_strOf3 L (i + 0) a ha a0.1 a0.2
  have e2 := byN_strOf3 L (i + 1) b hb b0.1 b0.2
  have e3 := byN_strOf3 L (i + 2) c hc c0.1 c0.2
  have e4 := byN_strOf3 L (i + 3) d hd d0.1 d0.2
  simp only [lowK, e1, e2, e3, e4]
  omega
theorem lowK_pair (L : List Int) (i : Nat) (a b : Int) (ha : L[i]? = some a) (hb : L[i + 1]? = some b) (a0 : 0 ≤ a ∧ a < 256) (b0 : 0 ≤ b ∧ b < 256) : lowK (strOf L) i 2 = a + b * 256 := by
  have e1 := byN_strOf3 L (i + 0) a ha a0.1 a0.2
  have e2 := byN_strOf3 L (i + 1) b hb b0.1 b0.2
  simp only [lowK, e1, e2]
  omega
theorem file8_head (W H : Nat) (T : List Int) (hW : 1 ≤ W) (hW2 : W ≤ 40) (hH : 1 ≤ H) (hH2 : H ≤ 40) : rRead20 (strOf (head8 W H ++ T)) 0 = rOk ⟨40, W, H, false, 8, 1, 256, z8, 0⟩ 0 0 0 0 0 40 := by
  obtain ⟨s, hs⟩ : ∃ s, strOf (head8 W H ++ T) = s := ⟨_, rfl⟩
  have hl : 40 ≤ s.size := by rw [← hs, strOf_size3, List.length_append]; show 40 ≤ 40 + _; omega
  have f0 : lowK s 0 4 = 40 := by rw [← hs, lowK_four _ 0 40 0 0 0 rfl rfl rfl rfl (by decide) (by decide) (by decide) (by decide)]; rfl
  have f4 : lowK s 4 4 = W := by rw [← hs, lowK_four _ 4 W 0 0 0 rfl rfl rfl rfl (by omega) (by decide) (by decide) (by decide)]; omega
  have f8 : lowK s 8 4 = H := by rw [← hs, lowK_four _ 8 H 0 0 0 rfl rfl rfl rfl (by omega) (by decide) (by decide) (by decide)]; omega
  have f12 : lowK s 12 2 = 1 := by rw [← hs, lowK_pair _ 12 1 0 rfl rfl (by decide) (by decide)]; rfl
  have f14 : lowK s 14 2 = 8 := by rw [← hs, lowK_pair _ 14 8 0 rfl rfl (by decide) (by decide)]; rfl
  have f16 : lowK s 16 4 = 1 := by rw [← hs, lowK_four _ 16 1 0 0 0 rfl rfl rfl rfl (by decide) (by decide) (by decide) (by decide)]; rfl
  have f32 : lowK s 32 4 = 0 := by rw [← hs, lowK_four _ 32 0 0 0 0 rfl rfl rfl rfl (by decide) (by decide) (by decide) (by decide)]; rfl
  rw [hs]
  clear hs
  have ext : ∀ i k, i + k ≤ 40 → lowK (s.extract 0 40) i k = lowK s i k := fun i k h => by rw [lowK_ext s 0 40 i k (by omega) hl, Nat.zero_add]
  have hbs : (s.extract 0 40).size = 40 := by rw [ByteArray.size_extract]; omega
  have sW : signed (W : Int) = W := by unfold signed; rw [if_neg (by omega)]
  have sH : signed (H : Int) = H := by unfold signed; rw [if_neg (by omega)]
  have hGH : greatH (s.extract 0 40) = ⟨40, W, H, false, 8, 1, 256, z8, 0⟩ := by
    unfold greatH
    rw [ext 4 4 (by decide), ext 8 4 (by decide), ext 14 2 (by decide), ext 16 4 (by decide), ext 32 4 (by decide), f4, f8, f14, f16, f32, sW, sH, hbs, if_neg (show ¬ (H : Int) < 0 by omega), if_pos ⟨rfl, by decide⟩, decide_eq_false (show ¬ (H : Int) < 0 by omega)]
    rfl
  have hGF : (firstW (greatF (s.extract 0 40))).2 = false := by
    refine firstW_all ?_
    unfold greatF sidesF
    rw [ext 4 4 (by decide), ext 8 4 (by decide), ext 12 2 (by decide), ext 14 2 (by decide), ext 16 4 (by decide), ext 32 4 (by decide), f4, f8, f12, f14, f16, f32, sW, sH]
    simp only [List.cons_append, List.nil_append, List.mem_cons, List.not_mem_nil, or_false, forall_eq_or_imp, forall_eq]
    refine ⟨?_, ?_, ?_, ?_, rfl, rfl, rfl, rfl, ?_, rfl⟩
    · simp; omega
    · simp; omega
    · simp; omega
    · simp; omega
    · simp
  rw [rread_40 s f0 hl hGF, hGH]
  rfl
end Go.Proofs.YtlfbaggcfaenlaaGreat

namespace Go.Proofs.YtlfbaggcfaenlaaGreat
open Go.RowKit
set_option linter.unusedVariables false
set_option linter.unusedSimpArgs false
/-- Some cells laid over others. -/
def putC (xs : List Value) (p : Nat) (c : List Value) : List Value := xs.take p ++ (c ++ xs.drop (p + c.length))
theorem putC_len (xs : List Value) (p : Nat) (c : List Value) (h : p + c.length ≤ xs.length) : (putC xs p c).length = xs.length := by
  unfold putC; rw [List.length_append, List.length_append, List.length_take, List.length_drop]; omega
theorem putC_get (xs : List Value) (p : Nat) (c : List Value) (h : p + c.length ≤ xs.length) (i : Nat) : (putC xs p c)[i]? = if p ≤ i ∧ i < p + c.length then c[i - p]? else xs[i]? := by
  unfold putC
  by_cases h1 : i < p
  · rw [List.getElem?_append_left (by rw [List.length_take]; omega), if_neg (by omega), List.getElem?_take, if_pos h1]
  · rw [List.getElem?_append_right (by rw [List.length_take]; omega), List.length_take, show i - min p xs.length = i - p by omega]
    by_cases h2 : i < p + c.length
    · rw [List.getElem?_append_left (by omega), if_pos (by omega)]
    · rw [List.getElem?_append_right (by omega), if_neg (by omega), List.getElem?_drop]; congr 1; omega
theorem putC_all {xs c : List Value} {p : Nat} (hx : ∀ u ∈ xs, u.oneCell' = true) (hc : ∀ u ∈ c, u.oneCell' = true) : ∀ u ∈ putC xs p c, u.oneCell' = true := by
  intro u hu
  unfold putC at hu
  rw [List.mem_append, List.mem_append] at hu
  rcases hu with hu | hu | hu
  · exact hx u (List.mem_of_mem_take hu)
  · exact hc u hu
  · exact hx u (List.mem_of_mem_drop hu)
/-- Cells laid one behind the other over others: it is as if they were laid at once. -/
theorem putC_nil (xs : List Value) (p : Nat) : putC xs p [] = xs := by
  unfold putC; simp
theorem putC_putC (xs : List Value) (p : Nat) (c e : List Value) (h : p + c.length + e.length ≤ xs.length) : putC (putC xs p c) (p + c.length) e = putC xs p (c ++ e) := by
  apply List.ext_getElem?
  intro i
  rw [putC_get _ _ _ (by rw [putC_len _ _ _ (by omega)]; omega), putC_get _ _ _ (by omega), putC_get _ _ _ (by rw [List.length_append]; omega), List.length_append]
  by_cases h1 : p + c.length ≤ i ∧ i < p + c.length + e.length
  · rw [if_pos h1, if_pos (by omega), List.getElem?_append_right (by omega)]; congr 1; omega
  · rw [if_neg h1]
    by_cases h2 : p ≤ i ∧ i < p + c.length
    · rw [if_pos h2, if_pos (by omega), List.getElem?_append_left (by omega)]
    · rw [if_neg h2, if_neg (by omega)]
structure S22 where
  x : Nat
  y : Nat
  pl : Nat
  L : List Value
/-- An entry's four cells. -/
def pxC (tb : List Value) (k : Nat) : List Value := (tb.drop (4 * k)).take 4
theorem pxC_len (tb : List Value) (M k : Nat) (h : tb.length = 4 * M) (hk : k < M) : (pxC tb k).length = 4 := by
  unfold pxC; rw [List.length_take, List.length_drop]; omega
theorem pxC_all {tb : List Value} {k : Nat} (h : ∀ u ∈ tb, u.oneCell' = true) : ∀ u ∈ pxC tb k, u.oneCell' = true := fun u hu => h u (List.mem_of_mem_drop (List.mem_of_mem_take hu))
abbrev E22 := Except (Int × Int)
/-- The first pixels of a run. -/
def runP (tb : List Value) (M : Nat) (b d : Int) (pl : Nat) : Nat → E22 (List Value)
  | 0 => .ok []
  | n + 1 => match runP tb M b d pl n with
    | .error e => .error e
    | .ok p => if (entR b d n).toNat < M then .ok (p ++ pxC tb (entR b d n).toNat) else .error (2, (pl : Int) + 1)
theorem runP_len (tb : List Value) (M : Nat) (b d : Int) (pl : Nat) (hT : tb.length = 4 * M) (n : Nat) : ∀ p, runP tb M b d pl n = .ok p → p.length = 4 * n := by
  induction n with
  | zero => intro p h; rw [runP] at h; injection h with h; rw [← h]; rfl
  | succ n ih =>
    intro p h
    rw [runP] at h
    cases hr : runP tb M b d pl n with
    | error e => rw [hr] at h; cases h
    | ok q =>
      rw [hr] at h; dsimp only at h
      by_cases hk : (entR b d n).toNat < M
      · rw [if_pos hk] at h; injection h with h
        rw [← h, List.length_append, ih q hr, pxC_len tb M _ hT hk]; omega
      · rw [if_neg hk] at h; cases h
theorem runP_all (tb : List Value) (M : Nat) (b d : Int) (pl : Nat) (hT : ∀ u ∈ tb, u.oneCell' = true) (n : Nat) : ∀ p, runP tb M b d pl n = .ok p → ∀ u ∈ p, u.oneCell' = true := by
  induction n with
  | zero => intro p h; rw [runP] at h; injection h with h; rw [← h]; intro u hu; cases hu
  | succ n ih =>
    intro p h
    rw [runP] at h
    cases hr : runP tb M b d pl n with
    | error e => rw [hr] at h; cases h
    | ok q =>
      rw [hr] at h; dsimp only at h
      by_cases hk : (entR b d n).toNat < M
      · rw [if_pos hk] at h; injection h with h
        rw [← h]; intro u hu
        rcases List.mem_append.1 hu with hu | hu
        · exact ih q hr u hu
        · exact pxC_all hT u hu
      · rw [if_neg hk] at h; cases h
/-- The first pixels of those that stand as they are. -/
def plainP (s : ByteArray) (tb : List Value) (M : Nat) (d : Int) (pl te : Nat) : Nat → E22 (List Value)
  | 0 => .ok []
  | n + 1 => match plainP s tb M d pl te n with
    | .error e => .error e
    | .ok p => if te ≤ pl + 2 + n / (8 / d).toNat then .error (1, te) else
      if (entR (byN s (pl + 2 + n / (8 / d).toNat)) d n).toNat < M then .ok (p ++ pxC tb (entR (byN s (pl + 2 + n / (8 / d).toNat)) d n).toNat) else .error (2, (pl : Int) + 2 + (n / (8 / d).toNat : Nat))
theorem plainP_err (s : ByteArray) (tb : List Value) (M : Nat) (d : Int) (pl te i k : Nat) (e : Int × Int) (h : plainP s tb M d pl te i = .error e) : plainP s tb M d pl te (i + k) = .error e := by
  induction k with
  | zero => exact h
  | succ k ih => rw [← Nat.add_assoc, plainP, ih]
theorem plainP_len (s : ByteArray) (tb : List Value) (M : Nat) (d : Int) (pl te : Nat) (hT : tb.length = 4 * M) (n : Nat) : ∀ p, plainP s tb M d pl te n = .ok p → p.length = 4 * n := by
  induction n with
  | zero => intro p h; rw [plainP] at h; injection h with h; rw [← h]; rfl
  | succ n ih =>
    intro p h
    rw [plainP] at h
    cases hr : plainP s tb M d pl te n with
    | error e => rw [hr] at h; cases h
    | ok q =>
      rw [hr] at h; dsimp only at h
      by_cases hb : te ≤ pl + 2 + n / (8 / d).toNat
      · rw [if_pos hb] at h; cases h
      rw [if_neg hb] at h
      by_cases hk : (entR (byN s (pl + 2 + n / (8 / d).toNat)) d n).toNat < M
      · rw [if_pos hk] at h; injection h with h
        rw [← h, List.length_append, ih q hr, pxC_len tb M _ hT hk]; omega
      · rw [if_neg hk] at h; cases h
theorem plainP_all (s : ByteArray) (tb : List Value) (M : Nat) (d : Int) (pl te : Nat) (hT : ∀ u ∈ tb, u.oneCell' = true) (n : Nat) : ∀ p, plainP s tb M d pl te n = .ok p → ∀ u ∈ p, u.oneCell' = true := by
  induction n with
  | zero => intro p h; rw [plainP] at h; injection h with h; rw [← h]; intro u hu; cases hu
  | succ n ih =>
    intro p h
    rw [plainP] at h
    cases hr : plainP s tb M d pl te n with
    | error e => rw [hr] at h; cases h
    | ok q =>
      rw [hr] at h; dsimp only at h
      by_cases hb : te ≤ pl + 2 + n / (8 / d).toNat
      · rw [if_pos hb] at h; cases h
      rw [if_neg hb] at h
      by_cases hk : (entR (byN s (pl + 2 + n / (8 / d).toNat)) d n).toNat < M
      · rw [if_pos hk] at h; injection h with h
        rw [← h]; intro u hu
        rcases List.mem_append.1 hu with hu | hu
        · exact ih q hr u hu
        · exact pxC_all hT u hu
      · rw [if_neg hk] at h; cases h
/-- A run; pixels as they are. -/
def run22 (s : ByteArray) (tb : List Value) (M W H : Nat) (d : Int) (σ : S22) (n : Nat) : E22 S22 :=
  if H ≤ σ.y ∨ W < σ.x + n then .error (2, σ.pl) else
  match runP tb M (byN s (σ.pl + 1)) d σ.pl n with
  | .error e => .error e
  | .ok p => .ok ⟨σ.x + n, σ.y, σ.pl + 2, putC σ.L (4 * ((H - 1 - σ.y) * W + σ.x)) p⟩
def sizeP (d : Int) (n : Nat) : Nat := (n + (8 / d).toNat - 1) / (8 / d).toNat
def plain22 (s : ByteArray) (tb : List Value) (M W H : Nat) (d : Int) (te : Nat) (σ : S22) (n : Nat) : E22 S22 :=
  if H ≤ σ.y ∨ W < σ.x + n then .error (2, σ.pl) else
  match plainP s tb M d σ.pl te n with
  | .error e => .error e
  | .ok p => if te < σ.pl + 2 + sizeP d n + sizeP d n % 2 then .error (1, te) else .ok ⟨σ.x + n, σ.y, σ.pl + 2 + sizeP d n + sizeP d n % 2, putC σ.L (4 * ((H - 1 - σ.y) * W + σ.x)) p⟩
/-- The place moved. -/
def move22 (W H : Nat) (x y pl pl0 : Nat) (L : List Value) : E22 S22 := if W < x ∨ H < y then .error (2, pl0) else .ok ⟨x, y, pl, L⟩
/-- One command, which isn't the last one. -/
def step22 (s : ByteArray) (tb : List Value) (M W H : Nat) (d : Int) (te : Nat) (σ : S22) : E22 S22 :=
  if 0 < byN s σ.pl then run22 s tb M W H d σ (byN s σ.pl).toNat else
  if 2 < byN s (σ.pl + 1) then plain22 s tb M W H d te σ (byN s (σ.pl + 1)).toNat else
  if byN s (σ.pl + 1) = 0 then move22 W H 0 (σ.y + 1) (σ.pl + 2) σ.pl σ.L else
  if te < σ.pl + 4 then .error (1, te) else move22 W H (σ.x + (byN s (σ.pl + 2)).toNat) (σ.y + (byN s (σ.pl + 3)).toNat) (σ.pl + 4) σ.pl σ.L
/-- All commands: a fault's kind and place, or the pixels. -/
def rle22 (s : ByteArray) (tb : List Value) (M W H : Nat) (d : Int) (te : Nat) : Nat → S22 → E22 (List Value)
  | 0, σ => .error (1, te)
  | f + 1, σ => if te < σ.pl + 2 then .error (1, te) else
    if byN s σ.pl = 0 ∧ byN s (σ.pl + 1) = 1 then .ok σ.L else
    match step22 s tb M W H d te σ with
    | .error e => .error e
    | .ok τ => rle22 s tb M W H d te f τ
/-- What a state that may be is. -/
def Good22 (W H te : Nat) (σ : S22) : Prop := σ.x ≤ W ∧ σ.y ≤ H ∧ σ.pl ≤ te ∧ σ.L.length = 4 * (W * H) ∧ ∀ u ∈ σ.L, u.oneCell' = true
theorem place_in {W H x y n : Nat} (hy : y < H) (hx : x + n ≤ W) : (H - 1 - y) * W + x + n ≤ W * H := by
  have h1 : (H - 1 - y + 1) * W ≤ H * W := Nat.mul_le_mul_right W (by omega)
  rw [Nat.add_mul, Nat.one_mul] at h1
  rw [Nat.mul_comm W H]; omega
theorem run22_good {s : ByteArray} {tb : List Value} {M W H : Nat} {d : Int} {te : Nat} {σ τ : S22} {n : Nat} (hT : tb.length = 4 * M) (hT2 : ∀ u ∈ tb, u.oneCell' = true) (h : Good22 W H te σ) (hp : σ.pl + 2 ≤ te) (hr : run22 s tb M W H d σ n = .ok τ) : Good22 W H te τ ∧ σ.pl < τ.pl := by
  unfold run22 at hr
  by_cases h1 : H ≤ σ.y ∨ W < σ.x + n
  · rw [if_pos h1] at hr; cases hr
  rw [if_neg h1] at hr
  cases hq : runP tb M (byN s (σ.pl + 1)) d σ.pl n with
  | error e => rw [hq] at hr; cases hr
  | ok p =>
    rw [hq] at hr; injection hr with hr
    have hl := runP_len _ _ _ _ _ hT _ p hq
    have ha := runP_all _ _ _ _ _ hT2 _ p hq
    obtain ⟨h2, h3, h4, h5, h6⟩ := h
    have h7 := place_in (W := W) (H := H) (x := σ.x) (y := σ.y) (n := n) (by omega) (by omega)
    rw [← hr]
    refine ⟨⟨?_, h3, hp, ?_, putC_all h6 ha⟩, by show σ.pl < σ.pl + 2; omega⟩
    · show σ.x + n ≤ W; omega
    · show (putC _ _ _).length = _; rw [putC_len _ _ _ (by rw [hl, h5]; omega)]; exact h5
theorem plain22_good {s : ByteArray} {tb : List Value} {M W H : Nat} {d : Int} {te : Nat} {σ τ : S22} {n : Nat} (hT : tb.length = 4 * M) (hT2 : ∀ u ∈ tb, u.oneCell' = true) (h : Good22 W H te σ) (hr : plain22 s tb M W H d te σ n = .ok τ) : Good22 W H te τ ∧ σ.pl < τ.pl := by
  unfold plain22 at hr
  by_cases h1 : H ≤ σ.y ∨ W < σ.x + n
  · rw [if_pos h1] at hr; cases hr
  rw [if_neg h1] at hr
  cases hq : plainP s tb M d σ.pl te n with
  | error e => rw [hq] at hr; cases hr
  | ok p =>
    rw [hq] at hr
    by_cases hz : te < σ.pl + 2 + sizeP d n + sizeP d n % 2
    · simp only [if_pos hz] at hr; cases hr
    simp only [if_neg hz] at hr
    injection hr with hr
    have hl := plainP_len _ _ _ _ _ _ hT _ p hq
    have ha := plainP_all _ _ _ _ _ _ hT2 _ p hq
    obtain ⟨h2, h3, h4, h5, h6⟩ := h
    have h7 := place_in (W := W) (H := H) (x := σ.x) (y := σ.y) (n := n) (by omega) (by omega)
    rw [← hr]
    refine ⟨⟨?_, h3, ?_, ?_, putC_all h6 ha⟩, ?_⟩
    · show σ.x + n ≤ W; omega
    · show σ.pl + 2 + sizeP d n + sizeP d n % 2 ≤ te; omega
    · show (putC _ _ _).length = _; rw [putC_len _ _ _ (by rw [hl, h5]; omega)]; exact h5
    · show σ.pl < σ.pl + 2 + sizeP d n + sizeP d n % 2; omega
theorem step22_good {s : ByteArray} {tb : List Value} {M W H : Nat} {d : Int} {te : Nat} {σ τ : S22} (hT : tb.length = 4 * M) (hT2 : ∀ u ∈ tb, u.oneCell' = true) (h : Good22 W H te σ) (hp : σ.pl + 2 ≤ te) (hr : step22 s tb M W H d te σ = .ok τ) : Good22 W H te τ ∧ σ.pl < τ.pl := by
  unfold step22 at hr
  by_cases h1 : 0 < byN s σ.pl
  · rw [if_pos h1] at hr; exact run22_good hT hT2 h hp hr
  rw [if_neg h1] at hr
  by_cases h2 : 2 < byN s (σ.pl + 1)
  · rw [if_pos h2] at hr; exact plain22_good hT hT2 h hr
  rw [if_neg h2] at hr
  have mv : ∀ x y pl, pl ≤ te → σ.pl < pl → move22 W H x y pl σ.pl σ.L = .ok τ → Good22 W H te τ ∧ σ.pl < τ.pl := by
    intro x y pl h3 h4 hm
    unfold move22 at hm
    by_cases h5 : W < x ∨ H < y
    · rw [if_pos h5] at hm; cases hm
    rw [if_neg h5] at hm
    injection hm with hm
    rw [← hm]
    exact ⟨⟨by show x ≤ W; omega, by show y ≤ H; omega, h3, h.2.2.2.1, h.2.2.2.2⟩, h4⟩
  by_cases h3 : byN s (σ.pl + 1) = 0
  · rw [if_pos h3] at hr; exact mv _ _ _ hp (by omega) hr
  rw [if_neg h3] at hr
  by_cases h4 : te < σ.pl + 4
  · rw [if_pos h4] at hr; cases hr
  rw [if_neg h4] at hr
  exact mv _ _ _ (by omega) (by omega) hr
end Go.Proofs.YtlfbaggcfaenlaaGreat


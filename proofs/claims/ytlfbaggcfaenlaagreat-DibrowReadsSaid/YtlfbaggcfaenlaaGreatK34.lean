/- dibhead.Bytes: the closure that puts four bytes; again: walked. -/
import Derived.Test.YtlfbaggcfaenlaaGreatK19
import Derived.Test.YtlfbaggcfaenlaaGreatK33
import Derived.Test.YtlfbaggcfaenlaaGreatK1
import Derived.Test.YtlfbaggcfaenlaaGreatK14
import Derived.Laws.StructEq
import Derived.Test.YtlfbaggcfaenlaaGreatK32
import Derived.Test.YtlfbaggcfaenlaaGreatK22
import Derived.Test.YtlfbaggcfaenlaaGreatK9
import Derived.Test.YtlfbaggcfaenlaaGreatK24
import Derived.Test.YtlfbaggcfaenlaaGreatK0
namespace Go.Proofs.YtlfbaggcfaenlaaGreat
open Go.RowKit
set_option linter.unusedVariables false
set_option linter.unusedSimpArgs false
theorem map_set {α β : Type} (f : α → β) (L : List α) (i : Nat) (x : α) : (L.map f).set i (f x) = (L.set i x).map f := by simp
theorem Obj1.setL {w : World} {g : Nat} {L : List Int} {T : TypeId} (h : Obj1 w g (L.map (.int .u8)).toArray T) (i : Nat) (x : Int) : Obj1 (w.setCell ⟨g, i, none⟩ (.int .u8 x)) g ((L.set i x).map (.int .u8)).toArray T := by
  have h1 := h.set i (.int .u8 x)
  rw [List.setIfInBounds_toArray, map_set] at h1
  exact h1
end Go.Proofs.YtlfbaggcfaenlaaGreat
namespace Go.Proofs.YtlfbaggcfaenlaaGreat
open Go.RowKit
set_option linter.unusedVariables false
set_option linter.unusedSimpArgs false
section
variable (n : Nat) (W h dp mt co : Int) (hn : 40 ≤ n)
end
structure OutIs (S : ByteArray) (W h dp mt co : Int) : Prop where
  z : S.size = if mt = 3 then 52 else 40
  f0 : lowK S 0 4 = 40
  f4 : lowK S 4 4 = W % 4294967296
  f8 : lowK S 8 4 = h % 4294967296
  f12 : lowK S 12 2 = 1
  f14 : lowK S 14 2 = dp % 65536
  f16 : lowK S 16 4 = mt % 4294967296
  f32 : lowK S 32 4 = co % 4294967296
end Go.Proofs.YtlfbaggcfaenlaaGreat
namespace Go.Proofs.YtlfbaggcfaenlaaGreat
open Go.RowKit
set_option linter.unusedVariables false
set_option linter.unusedSimpArgs false
def putC (xs : List Value) (p : Nat) (c : List Value) : List Value := xs.take p ++ (c ++ xs.drop (p + c.length))
theorem putC_len (xs : List Value) (p : Nat) (c : List Value) (h : p + c.length ≤ xs.length) : (putC xs p c).length = xs.length := by
  unfold putC; rw [List.length_append, List.length_append, List.length_take, List.length_drop]; omega
theorem putC_get (xs : List Value) (p : Nat) (c : List Value) (h : p + c.length ≤ xs.length) (i : Nat) : (putC xs p c)[i]? = if p ≤ i ∧ i < p + c.length then c[i - p]? else xs[i]? := by
  unfold putC
  by_cases h1 : i < p
  · rw [List.getElem?_append_left (by rw [List.length_take]; omega), if_neg (by omega), List.getElem?_take, if_pos h1]
  · rw [List.getElem?_append_right (by rw [List.length_take]; omega), List.length_take, show i - min p xs.length = i - p by omega]
    by_cases h2 : i < p + c.length
    · rw [List.getElem?_append_left (by omega), if_pos (by omega)]
    · rw [List.getElem?_append_right (by omega), if_neg (by omega), List.getElem?_drop]; congr 1; omega
theorem putC_all {xs c : List Value} {p : Nat} (hx : ∀ u ∈ xs, u.oneCell' = true) (hc : ∀ u ∈ c, u.oneCell' = true) : ∀ u ∈ putC xs p c, u.oneCell' = true := by
  intro u hu
  unfold putC at hu
  rw [List.mem_append, List.mem_append] at hu
  rcases hu with hu | hu | hu
  · exact hx u (List.mem_of_mem_take hu)
  · exact hc u hu
  · exact hx u (List.mem_of_mem_drop hu)
theorem putC_nil (xs : List Value) (p : Nat) : putC xs p [] = xs := by
  unfold putC; simp
theorem putC_putC (xs : List Value) (p : Nat) (c e : List Value) (h : p + c.length + e.length ≤ xs.length) : putC (putC xs p c) (p + c.length) e = putC xs p (c ++ e) := by
  apply List.ext_getElem?
  intro i
  rw [putC_get _ _ _ (by rw [putC_len _ _ _ (by omega)]; omega), putC_get _ _ _ (by omega), putC_get _ _ _ (by rw [List.length_append]; omega), List.length_append]
  by_cases h1 : p + c.length ≤ i ∧ i < p + c.length + e.length
  · rw [if_pos h1, if_pos (by omega), List.getElem?_append_right (by omega)]; congr 1; omega
  · rw [if_neg h1]
    by_cases h2 : p ≤ i ∧ i < p + c.length
    · rw [if_pos h2, if_pos (by omega), List.getElem?_append_left (by omega)]
    · rw [if_neg h2, if_neg (by omega)]
structure S22 where
  x : Nat
  y : Nat
  pl : Nat
  L : List Value
def pxC (tb : List Value) (k : Nat) : List Value := (tb.drop (4 * k)).take 4
theorem pxC_len (tb : List Value) (M k : Nat) (h : tb.length = 4 * M) (hk : k < M) : (pxC tb k).length = 4 := by
  unfold pxC; rw [List.length_take, List.length_drop]; omega
theorem pxC_all {tb : List Value} {k : Nat} (h : ∀ u ∈ tb, u.oneCell' = true) : ∀ u ∈ pxC tb k, u.oneCell' = true := fun u hu => h u (List.mem_of_mem_drop (List.mem_of_mem_take hu))
abbrev E22 := Except (Int × Int)
def runP (tb : List Value) (M : Nat) (b d : Int) (pl : Nat) : Nat → E22 (List Value)
  | 0 => .ok []
  | n + 1 => match runP tb M b d pl n with
    | .error e => .error e
    | .ok p => if (entR b d n).toNat < M then .ok (p ++ pxC tb (entR b d n).toNat) else .error (2, (pl : Int) + 1)
def plainP (s : ByteArray) (tb : List Value) (M : Nat) (d : Int) (pl te : Nat) : Nat → E22 (List Value)
  | 0 => .ok []
  | n + 1 => match plainP s tb M d pl te n with
    | .error e => .error e
    | .ok p => if te ≤ pl + 2 + n / (8 / d).toNat then .error (1, te) else
      if (entR (byN s (pl + 2 + n / (8 / d).toNat)) d n).toNat < M then .ok (p ++ pxC tb (entR (byN s (pl + 2 + n / (8 / d).toNat)) d n).toNat) else .error (2, (pl : Int) + 2 + (n / (8 / d).toNat : Nat))
def run22 (s : ByteArray) (tb : List Value) (M W H : Nat) (d : Int) (σ : S22) (n : Nat) : E22 S22 :=
  if H ≤ σ.y ∨ W < σ.x + n then .error (2, σ.pl) else
  match runP tb M (byN s (σ.pl + 1)) d σ.pl n with
  | .error e => .error e
  | .ok p => .ok ⟨σ.x + n, σ.y, σ.pl + 2, putC σ.L (4 * ((H - 1 - σ.y) * W + σ.x)) p⟩
def sizeP (d : Int) (n : Nat) : Nat := (n + (8 / d).toNat - 1) / (8 / d).toNat
def plain22 (s : ByteArray) (tb : List Value) (M W H : Nat) (d : Int) (te : Nat) (σ : S22) (n : Nat) : E22 S22 :=
  if H ≤ σ.y ∨ W < σ.x + n then .error (2, σ.pl) else
  match plainP s tb M d σ.pl te n with
  | .error e => .error e
  | .ok p => if te < σ.pl + 2 + sizeP d n + sizeP d n % 2 then .error (1, te) else .ok ⟨σ.x + n, σ.y, σ.pl + 2 + sizeP d n + sizeP d n % 2, putC σ.L (4 * ((H - 1 - σ.y) * W + σ.x)) p⟩
def move22 (W H : Nat) (x y pl pl0 : Nat) (L : List Value) : E22 S22 := if W < x ∨ H < y then .error (2, pl0) else .ok ⟨x, y, pl, L⟩
def step22 (s : ByteArray) (tb : List Value) (M W H : Nat) (d : Int) (te : Nat) (σ : S22) : E22 S22 :=
  if 0 < byN s σ.pl then run22 s tb M W H d σ (byN s σ.pl).toNat else
  if 2 < byN s (σ.pl + 1) then plain22 s tb M W H d te σ (byN s (σ.pl + 1)).toNat else
  if byN s (σ.pl + 1) = 0 then move22 W H 0 (σ.y + 1) (σ.pl + 2) σ.pl σ.L else
  if te < σ.pl + 4 then .error (1, te) else move22 W H (σ.x + (byN s (σ.pl + 2)).toNat) (σ.y + (byN s (σ.pl + 3)).toNat) (σ.pl + 4) σ.pl σ.L
def rle22 (s : ByteArray) (tb : List Value) (M W H : Nat) (d : Int) (te : Nat) : Nat → S22 → E22 (List Value)
  | 0, σ => .error (1, te)
  | f + 1, σ => if te < σ.pl + 2 then .error (1, te) else
    if byN s σ.pl = 0 ∧ byN s (σ.pl + 1) = 1 then .ok σ.L else
    match step22 s tb M W H d te σ with
    | .error e => .error e
    | .ok τ => rle22 s tb M W H d te f τ
theorem range_part {w : World} {b o : Nat} {L : List Value} (h : w.rangeAt b o L) (k : Nat) (L2 : List Value) (hL : ∀ j v, L2[j]? = some v → L[k + j]? = some v) : w.rangeAt b (o + k) L2 := fun j v hv => by
  rw [Nat.add_assoc]; exact h (k + j) v (hL j v hv)
theorem owns_stored {w w2 : World} {base e size n g cap o : Nat} {xs vs : List Value} (h : w.ownsRow base e size (.slice (some ⟨g, 0, none⟩) n cap) n xs) (hst : Stored w g o vs w2) (ho : o + vs.length ≤ xs.length) : w2.ownsRow base e size (.slice (some ⟨g, 0, none⟩) n cap) n (putC xs o vs) := by
  rw [show w2 = _ from hst]; clear hst
  induction vs generalizing w o xs with
  | nil => rw [putC_nil]; exact h
  | cons v t ih =>
    rw [World.setCells]
    have h1 := (h.stored o v).1
    have h2 := ih h1 (o := o + 1) (by simp at ho ⊢; omega)
    have e1 : xs.set o v = putC xs o [v] := by
      apply List.ext_getElem?
      intro i
      rw [putC_get _ _ _ (by simp at ho ⊢; omega), List.getElem?_set]
      by_cases hi : o = i
      · subst hi; rw [if_pos rfl, if_pos (by simp at ho; omega), if_pos (by simp)]; simp
      · rw [if_neg hi, if_neg (by simp; omega)]
    rw [e1, show o + 1 = o + [v].length from rfl, putC_putC _ _ _ _ (by simp at ho ⊢; omega)] at h2
    exact h2
theorem owns_there {w : World} {base e size n g cap : Nat} {xs : List Value} (h : w.ownsRow base e size (.slice (some ⟨g, 0, none⟩) n cap) n xs) (o k : Nat) (ho : o + k ≤ xs.length) : w.there g o k := fun j hj => by
  have h1 := owns_range h (o + j) (xs[o + j]'(by omega)) (List.getElem?_eq_getElem _)
  rw [Nat.zero_add] at h1
  exact ⟨by rw [h1]; rfl, h.frozenAt _⟩
theorem owns_form4 {w : World} {base e sz n : Nat} {v : Value} {xs : List Value} (h : w.ownsRow base e sz v n xs) (hn : 0 < n) : ∃ g cap, v = .slice (some ⟨g, 0, none⟩) n cap ∧ base ≤ g ∧ g < w.heap.size := by
  obtain ⟨hl, h2⟩ := h
  rcases h2 with ⟨_, h2⟩ | ⟨g, cap, cur, hv, hg, hh, _⟩
  · omega
  · exact ⟨g, cap, hv, hg, (Array.getElem?_eq_some_iff.1 hh).1⟩
theorem owns_down {B : Nat} {w w' : World} {base e size n : Nat} {v : Value} {xs : List Value} (h : w.ownsRow base e size v n xs) (hb : Below B w w') (hB : ∀ g, v.ownBlock = some g → g < B) : w'.ownsRow base e size v n xs := by
  obtain ⟨hl, h2⟩ := h
  refine ⟨hl, ?_⟩
  rcases h2 with h2 | ⟨g, cap, cur, rfl, hg, hh, rest⟩
  · exact Or.inl h2
  · exact Or.inr ⟨g, cap, cur, rfl, hg, (hb.block g (hB g rfl)).trans hh, rest⟩
def zC (N : Nat) : List Value := (madeCells #[.int .u8 0, .int .u8 0, .int .u8 0, .int .u8 0] (N * 4)).toList
theorem zC_len (N : Nat) : (zC N).length = 4 * N := by
  unfold zC madeCells; simp [Nat.mul_comm]
theorem zC_get (N i : Nat) (h : i < 4 * N) : (zC N)[i]? = some (.int .u8 0) := by
  have h2 : i < N * 4 := by omega
  have h3 : i % 4 < 4 := Nat.mod_lt _ (by decide)
  have key : ∀ j, j < 4 → (#[Value.int .u8 0, .int .u8 0, .int .u8 0, .int .u8 0] : Array Value)[j]! = .int .u8 0 := by
    intro j hj
    match j, hj with
    | 0, _ => rfl
    | 1, _ => rfl
    | 2, _ => rfl
    | 3, _ => rfl
  unfold zC madeCells
  rw [Array.getElem?_toList, Array.getElem?_map, Array.getElem?_range]
  simp only [h2, if_true, Option.map_some]
  exact congrArg some (key _ h3)
theorem zC_all (N : Nat) : ∀ u ∈ zC N, u.oneCell' = true := by
  intro u hu
  obtain ⟨i, hi, rfl⟩ := List.getElem_of_mem hu
  have h := zC_get N i (by rw [← zC_len N]; exact hi)
  rw [List.getElem?_eq_getElem hi] at h
  injection h with h
  rw [h]; rfl
theorem mkC (w : World) (N : Nat) (hN : N ≤ 1000000) : (Instr.makeSlice 54 (.int .i64 N) (.int .i64 N)).run Tryz.prog w = .ok (.slice (some ⟨w.heap.size, 0, none⟩) N N) (w.alloc (.cells (zC N).toArray 185)) := by
  obtain ⟨i, hi, hz0, hz1, hz2⟩ := info_parts (P := Tryz.prog) (e := 185) (z := .agg #[.int .u8 0, .int .u8 0, .int .u8 0, .int .u8 0]) (size := 4) (bytes := 4) (by kernel_rfl)
  have hr := run_make (P := Tryz.prog) w 54 185 i _ Tryz.underlying54 hi hz0 .i64 .i64 N N (by omega) (Int.le_refl _) (by rw [hz2]; omega) (by omega)
  rw [hr, hz1]
  simp [zC]
  rfl
def Read22Post (w : World) (W H N : Nat) (R : E22 (List Value)) (e : Ending) (w' : World) : Prop :=
  match R with
  | .error ka => e = .returned (.agg (List.toArray (bad13 ka.1 ka.2))) ∧ Below w.heap.size w w'
  | .ok L => ∃ g cap, e = .returned (.agg (List.toArray [.int .i64 W, .int .i64 H, .slice (some ⟨g, 0, none⟩) N cap, .int .i64 0, .int .i64 0])) ∧ w'.ownsRow w.heap.size 185 4 (.slice (some ⟨g, 0, none⟩) N cap) N L ∧ Below w.heap.size w w'
def ent21 (v : Int) (dp x : Nat) : Int := v / 2 ^ (8 - dp - x * dp % 8) % 2 ^ dp
def wsz (dp : Nat) : Nat := if 8 < dp then dp / 8 else 1
def colR (v r g b q : Int) : List Value := [.int .u8 (chR v r 0), .int .u8 (chR v g 0), .int .u8 (chR v b 0), .int .u8 (chR v q 255)]
structure H21 where
  W : Nat
  H : Nat
  top : Bool
  dp : Nat
  r : Int
  g : Int
  b : Int
  q : Int
def px21 (h : H21) (s : ByteArray) (tb : List Value) (M p x : Nat) : E22 (List Value) :=
  if h.dp ≤ 8 then (if (ent21 (byN s p) h.dp x).toNat < M then .ok (pxC tb (ent21 (byN s p) h.dp x).toNat) else .error (2, p))
  else if h.dp = 24 then .ok [.int .u8 (byN s (p + 2)), .int .u8 (byN s (p + 1)), .int .u8 (byN s p), .int .u8 255]
  else .ok (colR (lowK s p (h.dp / 8)) h.r h.g h.b h.q)
def yOf (h : H21) (k : Nat) : Nat := if h.top = true then k else h.H - 1 - k
def bindE (R : E22 (List Value)) (f : List Value → E22 (List Value)) : E22 (List Value) := match R with
  | .error e => .error e
  | .ok L => f L
def row21 (h : H21) (s : ByteArray) (tb : List Value) (M te fr y : Nat) : Nat → Nat → List Value → E22 (List Value)
  | 0, x, L => .ok L
  | c + 1, x, L => if te < fr + x * h.dp / 8 + wsz h.dp then .error (1, te) else bindE (px21 h s tb M (fr + x * h.dp / 8) x) fun cs => row21 h s tb M te fr y c (x + 1) (putC L (4 * (y * h.W + x)) cs)
def rows21 (h : H21) (s : ByteArray) (tb : List Value) (M te at_ : Nat) : Nat → Nat → List Value → E22 (List Value)
  | 0, k, L => .ok L
  | m + 1, k, L => bindE (row21 h s tb M te (at_ + k * strideN h.W h.dp) (yOf h k) h.W 0 L) fun L' => if te < at_ + k * strideN h.W h.dp + strideN h.W h.dp then .error (1, te) else rows21 h s tb M te at_ m (k + 1) L'
theorem ent21_bd (v : Int) (dp x : Nat) (hv : 0 ≤ v) : 0 ≤ ent21 v dp x ∧ ent21 v dp x < 2 ^ dp := by
  have hp : (0 : Int) < 2 ^ dp := Int.pow_pos (by decide)
  unfold ent21
  exact ⟨Int.emod_nonneg _ (by omega), Int.emod_lt_of_pos _ hp⟩
theorem px21_len {h : H21} {s : ByteArray} {tb : List Value} {M p x : Nat} {cs : List Value} (ht : tb.length = 4 * M) (ha : ∀ u ∈ tb, u.oneCell' = true) (hc : px21 h s tb M p x = .ok cs) : cs.length = 4 ∧ ∀ u ∈ cs, u.oneCell' = true := by
  unfold px21 at hc
  split at hc
  · split at hc
    · injection hc with hc; subst hc; rename_i hk; exact ⟨pxC_len tb M _ ht hk, pxC_all ha⟩
    · cases hc
  · split at hc
    · injection hc with hc; subst hc; exact ⟨rfl, by intro u hu; simp at hu; rcases hu with rfl | rfl | rfl | rfl <;> rfl⟩
    · injection hc with hc; subst hc; exact ⟨rfl, by unfold colR; intro u hu; simp at hu; rcases hu with rfl | rfl | rfl | rfl <;> rfl⟩
set_option maxRecDepth 100000 in
theorem row21_any (sz : Int) (W H : Nat) (top : Bool) (dp mt co r g b q fr en : Int) (k : Nat) (w : World) (hk : k < H) (hH : H ≤ 16384) :
    Calls Tryz.prog 106 #[.agg (List.toArray [.int .i64 sz, .int .i64 W, .int .i64 H, .bool top, .int .i64 dp, .int .i64 mt, .int .i64 co, .int .i64 r, .int .i64 g, .int .i64 b, .int .i64 q, .int .i64 fr, .int .i64 en, .int .i64 0, .int .i64 0]), .int .i64 k] w fun e w' => e = .returned (.int .i64 ((if top = true then k else H - 1 - k : Nat) : Int)) ∧ Below w.heap.size w w' := by
  have O1 := Hi (obj1_new w (List.toArray [.int .i64 sz, .int .i64 W, .int .i64 H, .bool top, .int .i64 dp, .int .i64 mt, .int .i64 co, .int .i64 r, .int .i64 g, .int .i64 b, .int .i64 q, .int .i64 fr, .int .i64 en, .int .i64 0, .int .i64 0]) 52)
  have BL := Hi ((Below.refl w.heap.size w).alloc (Nat.le_refl _) (.cells (List.toArray [.int .i64 sz, .int .i64 W, .int .i64 H, .bool top, .int .i64 dp, .int .i64 mt, .int .i64 co, .int .i64 r, .int .i64 g, .int .i64 b, .int .i64 q, .int .i64 fr, .int .i64 en, .int .i64 0, .int .i64 0]) 52))
  cases top
  · have E := Hi (show ((H - 1 - k : Nat) : Int) = (H : Int) - 1 - (k : Int) by omega)
    go_enter Tryz.func106, Tryz.ntmps106
    go_upto_region 1 with (fail)
    generalize World.alloc _ _ = w1 at O1 BL ⊢
    have c3 : w1.cell? ⟨w.heap.size, 3, none⟩ = some (.bool false) := (O1.out.cell 3).trans rfl
    have c2 : w1.cell? ⟨w.heap.size, 2, none⟩ = some (.int .i64 (H : Int)) := (O1.out.cell 2).trans rfl
    go_wp2_with fail
    go_ret
    exact ⟨ret_i E.out.symm, BL.out⟩
  · go_enter Tryz.func106, Tryz.ntmps106
    go_upto_region 1 with (fail)
    generalize World.alloc _ _ = w1 at O1 BL ⊢
    have c3 : w1.cell? ⟨w.heap.size, 3, none⟩ = some (.bool true) := (O1.out.cell 3).trans rfl
    go_wp2_with fail
    go_ret
    exact ⟨rfl, BL.out⟩
def JK.px (K : JK) (e : Int) : List Value := [.int .u8 (byN (K.p.ent e.toNat) 0), .int .u8 (byN (K.p.ent e.toNat) 1), .int .u8 (byN (K.p.ent e.toNat) 2), .int .u8 (byN (K.p.ent e.toNat) 3)]
theorem put4_putC (d : List Int) (i : Nat) (c0 c1 c2 c3 : Int) (h : i + 4 ≤ d.length) : u8s (put4 d i c0 c1 c2 c3) = putC (u8s d) i [.int .u8 c0, .int .u8 c1, .int .u8 c2, .int .u8 c3] := by
  have hl : (u8s d).length = d.length := by unfold u8s; simp
  apply List.ext_getElem?
  intro j
  rw [putC_get _ _ _ (by rw [hl]; exact h)]
  unfold u8s put4
  rw [List.getElem?_map]
  simp only [List.getElem?_set, List.length_set, List.getElem?_map]
  show _ = if i ≤ j ∧ j < i + 4 then _ else _
  by_cases h1 : i ≤ j ∧ j < i + 4
  · rw [if_pos h1]
    rcases (show j = i ∨ j = i + 1 ∨ j = i + 2 ∨ j = i + 3 by omega) with e | e | e | e
    · subst e
      rw [if_neg (by omega), if_neg (by omega), if_neg (by omega), if_pos rfl, if_pos (by omega), Nat.sub_self]; rfl
    · subst e
      rw [if_neg (by omega), if_neg (by omega), if_pos rfl, if_pos (by omega), show i + 1 - i = 1 by omega]; rfl
    · subst e
      rw [if_neg (by omega), if_pos rfl, if_pos (by omega), show i + 2 - i = 2 by omega]; rfl
    · subst e
      rw [if_pos rfl, if_pos (by omega), show i + 3 - i = 3 by omega]; rfl
  · rw [if_neg h1, if_neg (by omega), if_neg (by omega), if_neg (by omega), if_neg (by omega)]
def JK.at (K : JK) (x y : Nat) : Nat := 4 * ((K.n.H - 1 - y) * K.n.W + x)
structure KOk (K : JK) (tb : List Value) : Prop where
  dp : K.n.dp = 8 ∨ K.n.dp = 4
  px : ∀ e : Nat, e < K.p.n → pxC tb e = K.px e
structure CmdSim (K : JK) (σ : JS) (q : JS × (Int × Int)) (ref : E22 S22) : Prop where
  cost : Cost K σ q (if q.2.1 = 0 then 0 else 1)
  sim : q.1.l.br = false → match ref with
    | .error e => q.2 = e ∧ e.1 ≠ 0
    | .ok τ => q.2 = (0, 0) ∧ q.1.x = τ.x ∧ q.1.y = τ.y ∧ q.1.a = τ.pl ∧ u8s q.1.d = τ.L
structure PlR (K : JK) (tb : List Value) (pl : Nat) (σ0 : JS) (i : Nat) (σ : JS) : Prop where
  ok : σ.l.ok
  br : σ.l.br = false
  x : σ.x = σ0.x + i
  y : σ.y = σ0.y
  len : σ.d.length = σ0.d.length
  d : ∃ p, plainP K.x.s tb K.p.n K.n.dp pl K.x.e i = .ok p ∧ u8s σ.d = putC (u8s σ0.d) (K.at σ0.x σ0.y) p
structure ReadSim (K : JK) (σ : JS) (q : JS × (Int × Int)) (ref : E22 (List Value)) : Prop where
  cost : Cost K σ q 1
  sim : q.1.l.br = false → match ref with
    | .error e => q.2 = e ∧ e.1 ≠ 0
    | .ok L => q.2 = (0, 0) ∧ u8s q.1.d = L
end Go.Proofs.YtlfbaggcfaenlaaGreat

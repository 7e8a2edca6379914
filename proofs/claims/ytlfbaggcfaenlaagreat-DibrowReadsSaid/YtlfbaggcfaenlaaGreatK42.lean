/- The plain law of dibrow.Pack: the bytes of a row are the numbers of its bits. No program in sight. -/
import Derived.Test.YtlfbaggcfaenlaaGreatK2
import Derived.Test.YtlfbaggcfaenlaaGreatK9
import Derived.Deep.RegionHeld3
import Derived.Deep.AppendLies
import Derived.Deep.DrawnRows
import Derived.Test.YtlfbaggcfaenlaaGreatK38
import Derived.Test.YtlfbaggcfaenlaaGreatK32
import Derived.Test.YtlfbaggcfaenlaaGreatK34
import Derived.Test.YtlfbaggcfaenlaaGreatK19
import Derived.Test.YtlfbaggcfaenlaaGreatK24
import Derived.Test.YtlfbaggcfaenlaaGreatK0
namespace Go.Proofs.YtlfbaggcfaenlaaGreat
open Go.RowKit
set_option linter.unusedVariables false
def msbF (v : Int) (d : Nat) : Nat → List Int
  | 0 => []
  | j + 1 => msbF v d j ++ [v / 2 ^ (d - 1 - j) % 2]
def bytesBits : List Int → List Int
  | [] => []
  | b :: r => msbF b 8 8 ++ bytesBits r
def pv (l : List Int) (d base : Nat) : Nat → Int
  | 0 => 0
  | r + 1 => pv l d base r + l.getD (base + r) 0 * 2 ^ (8 - d * (r + 1))
structure FitsB (bits B : List Int) : Prop where
  pad : bits ++ List.replicate (8 * B.length - bits.length) 0 = bytesBits B
  le : bits.length ≤ 8 * B.length
  lt : 8 * B.length < bits.length + 8
  mem : ∀ x ∈ B, 0 ≤ x ∧ x < 256
def Yes (w : World) (e : Ending) (w' : World) : Prop := e = .returned (.bool true) ∧ Below w.heap.size w w'
theorem pack_ex : packI [1, 0, 1] 1 = (⟨#[160, 0, 0, 0]⟩, 0) := by decide +kernel
theorem ints3 (w : World) (x y z : Int) (T : TypeId) : Ints (w.alloc (.cells #[.int .i64 x, .int .i64 y, .int .i64 z] T)) (.slice (some ⟨w.heap.size, 0, none⟩) 3 3) [x, y, z] := by
  refine Or.inr ⟨w.heap.size, 0, 3, rfl, by simp, ?_⟩
  intro i hi
  rcases (show i = 0 ∨ i = 1 ∨ i = 2 by simp at hi; omega) with rfl | rfl | rfl <;> simp [go_sem]
theorem dpack_ex (w : World) (T : TypeId) : Calls Tryz.prog 98 #[.slice (some ⟨w.heap.size, 0, none⟩) 3 3, .int .i64 1] (w.alloc (.cells #[.int .i64 1, .int .i64 0, .int .i64 1] T)) fun e w' => e = .returned (.tuple #[.string ⟨#[160, 0, 0, 0]⟩, .int .i64 0]) ∧ Below w.heap.size w w' :=
  (dpack_any [1, 0, 1] _ 1 _ (ints3 w 1 0 1 T) (by decide) (by unfold depthOk; omega)).mono fun e w' hh => by obtain ⟨h1, h2⟩ := hh; rw [pack_ex] at h1; exact ⟨h1, bthen h2 ((Below.refl _ _).alloc (Nat.le_refl _) _) (by simp)⟩
theorem awake21 (w : World) : Calls Tryz.prog 29 #[] w (Yes w) := by
  go_enter Tryz.func29, Tryz.ntmps29
  go_wp2_with (go_at_call 98; (with_reducible refine (dpack_ex _ _).mono ?_); rintro e w1 ⟨rfl, hb1⟩)
  go_ret
  exact ⟨rfl, hb1⟩
/-! ### the law -/
end Go.Proofs.YtlfbaggcfaenlaaGreat
namespace Go.Proofs.YtlfbaggcfaenlaaGreat
open Go.RowKit
set_option linter.unusedVariables false
set_option linter.unusedSimpArgs false
def RasGood (w : World) (L : Nat) (l : Led) (a b : Nat) (e : Ending) (w' : World) : Prop := ∃ R B g, e = .returned (.tuple #[.pointer (some ⟨R, 0, none⟩), .int .i64 0]) ∧ LedAt w' L (l.take ((a * b * 4 : Nat) : Int)).1 ∧ RasAt w' R ⟨L, a, b, B, true, ⟨L, g, zeros8 (a * b * 4), true⟩⟩ ∧ w.heap.size ≤ R ∧ w.heap.size ≤ B ∧ w.heap.size ≤ g ∧ Chg (· = L) w w'
theorem ras_rich (L : Nat) (l : Led) (a b : Nat) (w : World) (h : LedAt w L l) (hb : l.br = false) (ha1 : 1 ≤ a) (ha2 : (a : Int) ≤ l.mw) (hb1 : 1 ≤ b) (hb2 : (b : Int) ≤ l.mh) (hm : l.mw ≤ 16384 ∧ l.mh ≤ 16384) (hmb : l.bt + 4 * (a * b : Nat) ≤ l.mb) :
    Calls Tryz.prog 20 #[.pointer (some ⟨L, 0, none⟩), .int .i64 a, .int .i64 b] w (RasGood w L l a b) := by
  refine (rasnew_any L l a b w h).mono ?_
  intro e w' hp
  unfold RNewPost at hp
  have hs : l.sides a b = (l, true) := by
    unfold Led.sides; rw [if_neg (by rw [hb]; decide), if_neg (by omega), if_neg (by omega)]
  obtain ⟨hp, hc⟩ := hp
  rw [if_neg (fun hh => hh ⟨⟨by omega, by omega⟩, by omega, by omega⟩), hs, if_neg (by intro hh; cases hh), Int.toNat_natCast, Int.toNat_natCast] at hp
  have htk : (l.take ((a * b * 4 : Nat) : Int)).2 = true := by
    unfold Led.take; rw [if_neg (by rw [hb]; decide), if_neg (by omega)]
  rw [if_neg (by rw [htk]; decide)] at hp
  obtain ⟨R, B, g, h1, h2, h3, h4, h5, h6⟩ := hp
  exact ⟨R, B, g, h1, h2, h3, h4, h5, h6, hc⟩
end Go.Proofs.YtlfbaggcfaenlaaGreat

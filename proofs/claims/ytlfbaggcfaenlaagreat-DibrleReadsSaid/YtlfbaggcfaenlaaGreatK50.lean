/- What a run-length picture's head is, cell by cell; the picture's first bytes. Plain. -/
import Derived.Test.YtlfbaggcfaenlaaGreatK43
import Derived.Test.YtlfbaggcfaenlaaGreatK45
import Derived.Test.YtlfbaggcfaenlaaGreatK49
import Derived.Test.YtlfbaggcfaenlaaGreatK0
namespace Go.Proofs.YtlfbaggcfaenlaaGreat
open Go.RowKit
set_option linter.unusedVariables false
theorem zC_zeros (N : Nat) : u8s (zeros8 (N * 4)) = zC N := by
  unfold u8s zeros8
  rw [List.map_replicate]
  refine (List.eq_replicate_iff.2 ⟨by rw [zC_len]; omega, fun v hv => ?_⟩).symm
  unfold zC madeCells at hv
  rw [Array.mem_toList_iff, Array.mem_map] at hv
  obtain ⟨x, -, rfl⟩ := hv
  have h4 : x % 4 < 4 := Nat.mod_lt _ (by decide)
  show (#[Value.int IntKind.u8 0, .int .u8 0, .int .u8 0, .int .u8 0] : Array Value)[x % 4]! = _
  have : x % 4 = 0 ∨ x % 4 = 1 ∨ x % 4 = 2 ∨ x % 4 = 3 := by omega
  rcases this with h | h | h | h <;> rw [h] <;> rfl
def c4 (sz : Int) (W Hh : Nat) (dp mt : Int) (co : Nat) (r g b q : Int) (en : Nat) : List Value := [.int .i64 sz, .int .i64 W, .int .i64 Hh, .bool false, .int .i64 dp, .int .i64 mt, .int .i64 co, .int .i64 r, .int .i64 g, .int .i64 b, .int .i64 q, .int .i64 0, .int .i64 en, .int .i64 0, .int .i64 0]
def c9 (sz : Int) (W Hh : Nat) (dp mt : Int) (co : Nat) : List Value := [.int .i64 sz, .int .i64 W, .int .i64 Hh, .bool false, .int .i64 dp, .int .i64 mt, .int .i64 co, .int .i64 0, .int .i64 0, .int .i64 0, .int .i64 0, .int .i64 0, .int .i64 0, .int .i64 0, .int .i64 0, .int .i64 0]
structure RunHead (s : ByteArray) (f sz : Int) (W Hh : Nat) (dp mt : Int) (co : Nat) (r g b q : Int) (en : Nat) : Prop where
  hr : rRead20 s 0 = c4 sz W Hh dp mt co r g b q en
  w1 : 1 ≤ W
  w2 : (W : Int) ≤ 40
  h1 : 1 ≤ Hh
  h2 : (Hh : Int) ≤ 40
  co1 : 1 ≤ co
  co2 : co ≤ 256
  en1 : en ≤ s.size
  rd : ∀ L X, ∃ l1 : Led, (l1.br = false ∧ l1.bt = 0 ∧ l1.mb = 20000 ∧ l1.mw = 40 ∧ l1.mh = 40 ∧ l1.mx = 1000000 ∧ 0 ≤ l1.st ∧ l1.st ≤ 3) ∧ ∀ w0, Pair w0 X ⟨L, s, 0, s.size, 0⟩ (Led.new 40 40 20000 1000000) →
    Calls Tryz.prog 18 #[.pointer (some ⟨X, 0, none⟩), .int .i64 f] w0 fun e w' => e = .returned (.tuple #[.agg (List.toArray (c9 sz W Hh dp mt co)), .agg (List.toArray [.int .i64 0, .int .i64 0, .int .i64 0])]) ∧ Pair w' X ⟨L, s, 0, s.size, en⟩ l1 ∧ Chg (two X ⟨L, s, 0, s.size, 0⟩) w0 w'
theorem run_head (s : ByteArray) (f : Int) (H : Hd) (r g b q : Int) (en : Nat) (HG : HdGood s 0 f H r g b q en) (hm : H.mt = 1 ∨ H.mt = 2) (hw : H.w ≤ 40) (hh : H.h ≤ 40) :
    ∃ (sz : Int) (W Hh co : Nat), (RunHead s f sz W Hh 8 1 co r g b q en) ∨ (RunHead s f sz W Hh 4 2 co r g b q en) := by
  have hlo : (Led.new 40 40 20000 1000000).ok := Led.new_ok _ _ _ _ (by decide) (by decide)
  obtain ⟨hr, hf, hmo, hen, -, -, hrd⟩ := HG
  obtain ⟨sz, w, h, top, dp, mt, co, m, fl⟩ := H
  have b1 := hf.w1
  have b2 := hmo.h1
  have m1 := hmo.m1
  have m2 := hmo.m2
  have c1 := hmo.c1
  have c0 := hmo.c0
  simp only at hm hw hh b1 b2 m1 m2 c1 c0
  obtain ⟨W, hW⟩ : ∃ W : Nat, w = W := ⟨w.toNat, by omega⟩
  obtain ⟨Hh, hHh⟩ : ∃ W : Nat, h = W := ⟨h.toNat, by omega⟩
  obtain ⟨c, hco⟩ : ∃ W : Nat, co = W := ⟨co.toNat, by omega⟩
  subst hW hHh hco
  refine ⟨sz, W, Hh, c, ?_⟩
  have key : ∀ d, d ≤ 8 → (d = 8 ∨ d = 4) → dp = d → top = false → mt ≠ 3 → RunHead s f sz W Hh d mt c r g b q en := by
    intro d hd hd2 h1 h2 h3
    subst h1 h2
    have c1 := c1 hd
    refine ⟨hr, by omega, hw, by omega, hh, by omega, by omega, hen, fun L X => ?_⟩
    obtain ⟨k, hk, hc⟩ := hrd L X (Led.new 40 40 20000 1000000) hlo rfl (by show (0 : Int) + 3 < 1000000; decide)
    refine ⟨{ Led.new 40 40 20000 1000000 with st := (Led.new 40 40 20000 1000000).st + k }, ⟨rfl, rfl, rfl, rfl, rfl, rfl, ?_, ?_⟩, fun w0 h0 => (hc w0 h0).mono fun e w' hp => ?_⟩
    · show (0 : Int) ≤ 0 + k; omega
    · show (0 : Int) + k ≤ 3; omega
    · obtain ⟨p1, p2, p3⟩ := hp
      refine ⟨?_, p2, p3⟩
      rw [p1]
      have em : hdM s 0 ⟨sz, W, Hh, false, dp, mt, c, m, fl⟩ = z8 := by
        unfold hdM
        rw [if_neg h3]
        unfold comM
        rw [if_neg (show ¬ dp = 16 by omega), if_neg (show ¬ dp = 32 by omega)]
      rw [em]
      rfl
  rcases hm with h | h
  · obtain ⟨h1, h2⟩ := m1 h
    have := key 8 (by decide) (Or.inl rfl) h1 h2 (by omega)
    rw [h] at this
    exact Or.inl this
  · obtain ⟨h1, h2⟩ := m2 h
    have := key 4 (by decide) (Or.inr rfl) h1 h2 (by omega)
    rw [h] at this
    exact Or.inr this
end Go.Proofs.YtlfbaggcfaenlaaGreat

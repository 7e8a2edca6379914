/- What reading a head and a table does to a source and a ledger, refusals included: plain. -/
import Derived.Test.YtlfbaggcfaenlaaGreatK34
import Derived.Test.YtlfbaggcfaenlaaGreatK23
import Derived.Test.YtlfbaggcfaenlaaGreatK33
import Derived.Test.YtlfbaggcfaenlaaGreatK30
import Derived.Test.YtlfbaggcfaenlaaGreatK28
import Derived.Test.YtlfbaggcfaenlaaGreatK0
namespace Go.Proofs.YtlfbaggcfaenlaaGreat
open Go.RowKit
set_option linter.unusedVariables false
set_option linter.unusedSimpArgs false
theorem LW.br_iff {l l' : Led} {k : Nat} (h : LW l l' k) (hb : l.br = false) : (l'.br = false ∧ l' = { l with st := l.st + k }) ∨ (l'.br = true ∧ l' = ({ l with st := l.st + k } : Led).refuse 3 1 ∧ l.st + k = l.mx) := by
  rcases h with h | ⟨h, h'⟩
  · left; subst h; exact ⟨hb, rfl⟩
  · right; subst h; exact ⟨rfl, rfl, h'⟩
theorem LW.calm {l l' : Led} {k : Nat} (h : LW l l' k) (hk : l.st + k < l.mx) : l' = { l with st := l.st + k } := by
  rcases h with h | ⟨h, h'⟩
  · exact h
  · omega
theorem LW.more {l l1 : Led} {k : Nat} (h : LW l l1 k) (hb : l.br = false) (ho : l1.ok) : (l1.work 1).1.ok ∧ ∃ j, j ≤ k + 1 ∧ LW l (l1.work 1).1 j := by
  refine ⟨Led.work_ok ho 1, ?_⟩
  rcases h.br_iff hb with ⟨h1, h2⟩ | ⟨h1, h2, h3⟩
  · rcases LW.one h1 ho with ⟨a, b, c⟩ | ⟨a, b, c⟩
    · exact ⟨k + 1, Nat.le_refl _, h.trans h1 b⟩
    · exact ⟨k, by omega, by have := h.trans h1 b; exact this⟩
  · have : l1.work 1 = (l1, false) := by unfold Led.work; rw [if_pos h1]
    rw [this]; exact ⟨k, by omega, h⟩
structure Rd (x : Sr) (l : Led) (q : Sr × Led) (j : Nat) : Prop where
  L : q.1.L = x.L
  s : q.1.s = x.s
  b : q.1.b = x.b
  e : q.1.e = x.e
  ok : q.1.ok
  lo : q.2.ok
  p : x.p ≤ q.1.p
  lw : ∃ k, k ≤ j ∧ LW l q.2 k
theorem Rd.refl {x : Sr} {l : Led} (hx : x.ok) (hl : l.ok) : Rd x l (x, l) 0 := ⟨rfl, rfl, rfl, rfl, hx, hl, Nat.le_refl _, 0, Nat.le_refl _, LW.refl _⟩
theorem Rd.mono {x : Sr} {l : Led} {q : Sr × Led} {j j' : Nat} (h : Rd x l q j) (hj : j ≤ j') : Rd x l q j' := by
  obtain ⟨k, hk, hl⟩ := h.lw
  exact ⟨h.L, h.s, h.b, h.e, h.ok, h.lo, h.p, k, by omega, hl⟩
theorem Rd.next {x : Sr} {l : Led} {q : Sr × Led} {j : Nat} (h : Rd x l q j) (hb : l.br = false) (n : Int) : Rd x l (q.1.next q.2 n).1 (j + 1) := by
  obtain ⟨k, hk, hl⟩ := h.lw
  obtain ⟨g1, i, hi, hli⟩ := hl.more hb h.lo
  have hbp := h.ok.bp
  have hpe := h.ok.pe
  have hp := h.p
  unfold Sr.next
  by_cases hc : (q.2.work 1).2 = true ∧ 0 ≤ n ∧ n ≤ (q.1.e : Int) - q.1.p
  · rw [if_pos hc]
    obtain ⟨c1, c2, c3⟩ := hc
    exact ⟨h.L, h.s, h.b, h.e, ⟨by show q.1.b ≤ q.1.p + n.toNat; omega, by show q.1.p + n.toNat ≤ q.1.e; omega, h.ok.es, h.ok.sz⟩, g1, by show x.p ≤ q.1.p + n.toNat; omega, i, by omega, hli⟩
  · rw [if_neg hc]
    exact ⟨h.L, h.s, h.b, h.e, h.ok, g1, hp, i, by omega, hli⟩
theorem hRun_rd {x : Sr} {l : Led} {y : Sr} {m : Led} {j : Nat} (h : Rd x l (y, m) j) (hb : l.br = false) (f : Int) (b : ByteArray) (H : Hd) (F : Fnd × Bool) : Rd x l (hRun x l f b y m H F).2 (j + 1) := by
  have h1 := h.mono (Nat.le_succ j)
  have h2 := h.next hb 12
  unfold hRun
  by_cases e1 : F.2 = true
  · rw [if_pos e1]; exact h1
  rw [if_neg e1]
  by_cases e2 : (H.mt == 3) = true
  · rw [if_pos e2]
    by_cases e3 : (H.sz == 40) = true
    · rw [if_pos e3]
      by_cases e4 : (y.next m 12).2.2 = true
      · rw [if_pos e4]; exact h2
      · rw [if_neg e4]; exact h2
    · rw [if_neg e3]; exact h1
  · rw [if_neg e2]; exact h1
theorem tkRes_rd {x : Sr} {l : Led} (hx : x.ok) (hl : l.ok) (hb : l.br = false) (f : Int) : Rd x l (tkRes x l f).2 2 := by
  have h1 := (Rd.refl hx hl).next hb 4
  have h2 := h1.next hb (lowK (x.next l 4).2.1 0 4 - 4)
  have h1' := h1.mono (Nat.le_succ 1)
  unfold tkRes
  by_cases e1 : (x.next l 4).2.2 = false
  · rw [if_pos e1]; exact h1'
  rw [if_neg e1]
  by_cases e2 : headsB (lowK (x.next l 4).2.1 0 4) = false
  · rw [if_pos e2]; exact h1'
  rw [if_neg e2]
  by_cases e3 : ((x.next l 4).1.1.next (x.next l 4).1.2 (lowK (x.next l 4).2.1 0 4 - 4)).2.2 = false
  · rw [if_pos e3]; exact h2
  · rw [if_neg e3]; exact h2
theorem hRead_rd {x : Sr} {l : Led} (hx : x.ok) (hl : l.ok) (hb : l.br = false) (f : Int) : Rd x l (hRead x l f).2 3 := by
  have h := tkRes_rd hx hl hb f
  unfold hRead
  by_cases e : tkOk x l = false
  · rw [if_pos e]; exact h.mono (Nat.le_succ 2)
  · rw [if_neg e]; exact hRun_rd h hb _ _ _ _
/-! ### a table -/
def Pal.b4 (p : Pal) (i : Nat) : List Int := (p.b.d.drop (4 * i)).take 4
theorem add_len (p : Pal) (c : List Int) (hc : c.length = 4) (hl : p.b.d.length = 4 * p.most) (hn : p.n < p.most) : (p.add c).b.d.length = 4 * p.most := by
  show (p.b.d.take (4 * p.n) ++ (c ++ p.b.d.drop (4 * p.n + 4))).length = _
  rw [List.length_append, List.length_append, List.length_take, List.length_drop, hc, hl]; omega
theorem add_b4 (p : Pal) (c : List Int) (hc : c.length = 4) (hl : p.b.d.length = 4 * p.most) (hn : p.n < p.most) : (p.add c).b4 p.n = c ∧ ∀ i, i < p.n → (p.add c).b4 i = p.b4 i := by
  have ht : (p.b.d.take (4 * p.n)).length = 4 * p.n := by rw [List.length_take, hl]; omega
  refine ⟨?_, fun i hi => ?_⟩
  · show ((p.b.d.take (4 * p.n) ++ (c ++ p.b.d.drop (4 * p.n + 4))).drop (4 * p.n)).take 4 = c
    rw [List.drop_append_of_le_length (by omega), List.drop_of_length_le (by omega), List.nil_append, List.take_append_of_le_length (by omega), List.take_of_length_le (by omega)]
  · show ((p.b.d.take (4 * p.n) ++ (c ++ p.b.d.drop (4 * p.n + 4))).drop (4 * i)).take 4 = (p.b.d.drop (4 * i)).take 4
    rw [List.drop_append_of_le_length (by omega), List.take_append_of_le_length (by rw [List.length_drop]; omega), List.drop_take, List.take_take, Nat.min_eq_left (by omega)]
structure PalRun (sz : Nat) (p : Pal) (x : Sr) (l : Led) (n : Nat) (q : (Pal × (Sr × Led)) × Bool) : Prop where
  rd : Rd x l q.1.2 n
  B : q.1.1.B = p.B
  g : q.1.1.b.g = p.b.g
  bL : q.1.1.b.L = p.b.L
  op : q.1.1.b.op = p.b.op
  most : q.1.1.most = p.most
  len : q.1.1.b.d.length = 4 * p.most
  yes : q.2 = true → x.p + sz * n ≤ x.e ∧ q.1.2.1 = { x with p := x.p + sz * n } ∧ q.1.2.2 = { l with st := l.st + n } ∧ q.1.1.n = p.n + n ∧ (∀ i, i < p.n → q.1.1.b4 i = p.b4 i) ∧ ∀ j, j < n → q.1.1.b4 (p.n + j) = col3 (x.s.extract (x.p + sz * j) (x.p + sz * j + sz))
  no : q.2 = false → (q.1.2.2.br = false → x.e < x.p + sz * n) ∧ (x.p + sz * n ≤ x.e → q.1.2.2.br = true)
theorem palR_run (sz : Nat) (hsz : sz = 3 ∨ sz = 4) : ∀ (n : Nat) (p : Pal) (x : Sr) (l : Led), x.ok → l.ok → l.br = false → p.b.d.length = 4 * p.most → p.n + n ≤ p.most → PalRun sz p x l n (palR sz p x l n)
  | 0, p, x, l, hx, hl, hb, hlen, hn => by
    refine ⟨Rd.refl hx hl, rfl, rfl, rfl, rfl, rfl, hlen, fun _ => ⟨by have := hx.pe; omega, ?_, ?_, rfl, fun _ _ => rfl, fun j hj => by omega⟩, fun h => by cases h⟩
    · show x = { x with p := x.p + sz * 0 }; simp
    · show l = { l with st := l.st + (0 : Nat) }; simp
  | n + 1, p, x, l, hx, hl, hb, hlen, hn => by
    have hs0 : (0 : Int) ≤ sz := by omega
    have hr := (Rd.refl hx hl).next hb sz
    have hmul : sz * (n + 1) = sz * n + sz := Nat.mul_succ sz n
    rw [palR]
    by_cases hk : (x.next l sz).2.2 = false
    · rw [if_pos hk]
      refine ⟨hr.mono (by omega), rfl, rfl, rfl, rfl, rfl, hlen, (fun h => by cases h), fun _ => ⟨fun hbr => ?_, fun hin => ?_⟩⟩
      · unfold Sr.next at hk hbr
        rcases LW.one hb hl with ⟨a, b, c⟩ | ⟨a, b, c⟩
        · by_cases hc : (l.work 1).2 = true ∧ 0 ≤ (sz : Int) ∧ (sz : Int) ≤ (x.e : Int) - x.p
          · rw [if_pos hc] at hk; cases hk
          · have h3 : ¬ ((sz : Int) ≤ (x.e : Int) - x.p) := fun hh => hc ⟨a, hs0, hh⟩
            omega
        · by_cases hc : (l.work 1).2 = true ∧ 0 ≤ (sz : Int) ∧ (sz : Int) ≤ (x.e : Int) - x.p
          · rw [a] at hc; cases hc.1
          · rw [if_neg hc] at hbr
            have : (l.work 1).1.br = false := hbr
            rw [c] at this; cases this
      · unfold Sr.next at hk ⊢
        rcases LW.one hb hl with ⟨a, b, c⟩ | ⟨a, b, c⟩
        · rw [if_pos ⟨a, hs0, by omega⟩] at hk; cases hk
        · rw [if_neg (fun hc => by rw [a] at hc; cases hc.1)]; exact c
    · rw [if_neg hk]
      have hnx : (x.next l sz) = (({ x with p := x.p + sz }, { l with st := l.st + 1 }), (x.s.extract x.p (x.p + sz), true)) ∧ x.p + sz ≤ x.e := by
        unfold Sr.next at hk ⊢
        by_cases hc : (l.work 1).2 = true ∧ 0 ≤ (sz : Int) ∧ (sz : Int) ≤ (x.e : Int) - x.p
        · rw [if_pos hc]
          rcases LW.one hb hl with ⟨a, b, c⟩ | ⟨a, b, c⟩
          · have hw : (l.work 1).1 = { l with st := l.st + 1 } := by
              rcases b.br_iff hb with ⟨d1, d2⟩ | ⟨d1, d2, d3⟩
              · exact d2
              · rw [c] at d1; cases d1
            rw [hw, Int.toNat_natCast]
            exact ⟨rfl, by have := hc.2.2; have := hx.pe; omega⟩
          · rw [a] at hc; cases hc.1
        · rw [if_neg hc] at hk; exact absurd rfl hk
      obtain ⟨hnx, hin⟩ := hnx
      rw [hnx] at hr ⊢
      have h1l : ({ l with st := l.st + 1 } : Led).ok := hr.lo
      obtain ⟨g1, g2, g3, g4, g5, g6, g7, g8, g9⟩ := palR_run sz hsz n (p.add (col3 (x.s.extract x.p (x.p + sz)))) { x with p := x.p + sz } { l with st := l.st + 1 } hr.ok h1l hb
        (add_len p _ rfl hlen (by omega)) (by show p.n + 1 + n ≤ p.most; omega)
      obtain ⟨a1, a2⟩ := add_b4 p (col3 (x.s.extract x.p (x.p + sz))) rfl hlen (by omega)
      have hrd : Rd x l (palR sz (p.add (col3 (x.s.extract x.p (x.p + sz)))) { x with p := x.p + sz } { l with st := l.st + 1 } n).1.2 (n + 1) := by
        obtain ⟨k, hk, hlw⟩ := g1.lw
        exact ⟨g1.L, g1.s, g1.b, g1.e, g1.ok, g1.lo, by have := g1.p; have : x.p + sz ≤ _ := this; omega, 1 + k, by omega, LW.trans (l1 := { l with st := l.st + 1 }) (Or.inl rfl) hb hlw⟩
      refine ⟨hrd, g2, g3, g4, g5, g6, g7, fun hy => ?_, fun hy => ⟨fun hbr => ?_, fun hin2 => ?_⟩⟩
      · obtain ⟨y1, y2, y3, y4, y5, y6⟩ := g8 hy
        have y1 : x.p + sz + sz * n ≤ x.e := y1
        refine ⟨by omega, ?_, ?_, ?_, fun i hi => ?_, fun j hj => ?_⟩
        · rw [y2]; show ({ x with p := x.p + sz + sz * n } : Sr) = { x with p := x.p + sz * (n + 1) }
          rw [show x.p + sz + sz * n = x.p + sz * (n + 1) by omega]
        · rw [y3]
          show ({ l with st := l.st + 1 + (n : Int) } : Led) = { l with st := l.st + ((n + 1 : Nat) : Int) }
          rw [show l.st + 1 + (n : Int) = l.st + ((n + 1 : Nat) : Int) by omega]
        · rw [y4]; show p.n + 1 + n = _; omega
        · rw [y5 i (by show i < p.n + 1; omega)]; exact a2 i hi
        · by_cases h0 : j = 0
          · subst h0
            rw [Nat.add_zero, y5 p.n (by show p.n < p.n + 1; omega), a1]; rfl
          · obtain ⟨j', rfl⟩ : ∃ j', j = j' + 1 := ⟨j - 1, by omega⟩
            have := y6 j' (by omega)
            have e1 : (p.add (col3 (x.s.extract x.p (x.p + sz)))).n + j' = p.n + (j' + 1) := by show p.n + 1 + j' = _; omega
            have hmj : sz * (j' + 1) = sz * j' + sz := Nat.mul_succ sz j'
            rw [e1] at this
            rw [this]
            show col3 (x.s.extract (x.p + sz + sz * j') (x.p + sz + sz * j' + sz)) = _
            rw [show x.p + sz + sz * j' = x.p + sz * (j' + 1) by omega]
      · have := (g9 hy).1 hbr
        have : x.e < x.p + sz + sz * n := this
        omega
      · exact (g9 hy).2 (by show x.p + sz + sz * n ≤ x.e; omega)
structure Hd.more (a : Hd) : Prop where
  h1 : 1 ≤ a.h
  h2 : a.h ≤ 16384
  m0 : 0 ≤ a.mt ∧ a.mt ≤ 3
  m1 : a.mt = 1 → a.dp = 8 ∧ a.top = false
  m2 : a.mt = 2 → a.dp = 4 ∧ a.top = false
  m3 : a.mt = 3 → a.dp = 16 ∨ a.dp = 32
  c0 : 0 ≤ a.co ∧ a.co ≤ 256
  c1 : a.dp ≤ 8 → 1 ≤ a.co ∧ a.co ≤ 2 ^ a.dp.toNat
theorem hd_more (b : ByteArray) (hd : headsB b.size = true) (h : (firstW (fdOf b)).2 = false) : (hdOf b).more := by
  have hn := firstW_no h
  by_cases h12 : b.size = 12
  · have e1 : fdOf b = smallF b := by unfold fdOf; rw [if_pos h12]
    have e2 : hdOf b = smallH b := by unfold hdOf; rw [if_pos h12]
    rw [e1] at hn
    rw [e2]
    unfold smallF sidesF at hn
    have a3 := hn (lowK b 6 2 == 0, 2, 6) (by simp)
    have a4 := hn (decide (lowK b 6 2 > 16384) || decide (lowK b 6 2 < -16384), 3, 6) (by simp)
    have a6 := hn (!dpB (lowK b 10 2) false, 3, 10) (by simp)
    have d := dpB_no (show dpB (lowK b 10 2) false = true by simpa using a6)
    simp only [beq_eq_false_iff_ne, Bool.or_eq_false_iff, decide_eq_false_iff_not] at a3 a4
    have hb := lowK_bd b 6 2
    obtain ⟨dp, hdp⟩ : ∃ dp, lowK b 10 2 = dp := ⟨_, rfl⟩
    have e3 : smallH b = ⟨12, lowK b 4 2, lowK b 6 2, false, dp, 0, if dp ≤ 8 then 2 ^ dp.toNat else 0, z8, 0⟩ := by unfold smallH; rw [hdp]
    rw [hdp] at d
    rw [e3]
    refine ⟨by show 1 ≤ lowK b 6 2; omega, by show lowK b 6 2 ≤ 16384; omega, by show (0 : Int) ≤ 0 ∧ (0 : Int) ≤ 3; omega, (fun hh => by cases hh), (fun hh => by cases hh), (fun hh => by cases hh), ?_, ?_⟩
    · show 0 ≤ (if dp ≤ 8 then (2 : Int) ^ dp.toNat else 0) ∧ (if dp ≤ 8 then (2 : Int) ^ dp.toNat else 0) ≤ 256
      rcases d with d | d | d | d <;> subst d <;> decide
    · show dp ≤ 8 → 1 ≤ (if dp ≤ 8 then (2 : Int) ^ dp.toNat else 0) ∧ (if dp ≤ 8 then (2 : Int) ^ dp.toNat else 0) ≤ 2 ^ dp.toNat
      rcases d with d | d | d | d <;> subst d <;> decide
  · have e1 : fdOf b = greatF b := by unfold fdOf; rw [if_neg h12]
    have e2 : hdOf b = greatH b := by unfold hdOf; rw [if_neg h12]
    rw [e1] at hn
    rw [e2]
    unfold greatF sidesF at hn
    have a3 := hn (signed (lowK b 8 4) == 0, 2, 8) (by simp)
    have a4 := hn (decide (signed (lowK b 8 4) > 16384) || decide (signed (lowK b 8 4) < -16384), 3, 8) (by simp)
    have a6 := hn (!dpB (lowK b 14 2) true, 3, 14) (by simp)
    have a7 := hn (decide (lowK b 16 4 > 3), 3, 16) (by simp)
    have a8 := hn (!fitsB (lowK b 16 4) (lowK b 14 2), 2, 16) (by simp)
    have a9 := hn (decide (signed (lowK b 8 4) < 0) && (lowK b 16 4 == 1 || lowK b 16 4 == 2), 2, 8) (by simp)
    have a10 := hn (dpB (lowK b 14 2) true && decide (lowK b 32 4 > mostI (lowK b 14 2)), 2, 32) (by simp)
    have hdT : dpB (lowK b 14 2) true = true := by simpa using a6
    have d := dpB_in hdT
    simp only [beq_eq_false_iff_ne, Bool.or_eq_false_iff, decide_eq_false_iff_not] at a3 a4
    simp only [decide_eq_false_iff_not] at a7
    have b16 := (lowK_bd b 16 4).1
    have b32 := (lowK_bd b 32 4).1
    obtain ⟨dp, hdp⟩ : ∃ dp, lowK b 14 2 = dp := ⟨_, rfl⟩
    obtain ⟨H, hH⟩ : ∃ H, signed (lowK b 8 4) = H := ⟨_, rfl⟩
    obtain ⟨mt, hmt⟩ : ∃ mt, lowK b 16 4 = mt := ⟨_, rfl⟩
    obtain ⟨co, hco⟩ : ∃ co, lowK b 32 4 = co := ⟨_, rfl⟩
    have e3 : greatH b = ⟨b.size, signed (lowK b 4 4), if H < 0 then -H else H, decide (H < 0), dp, mt, if co = 0 ∧ dp ≤ 8 then mostI dp else co, z8, 0⟩ := by unfold greatH; rw [hdp, hH, hmt, hco]
    rw [hdp] at d hdT a8 a10
    rw [hH] at a3 a4 a9
    rw [hmt] at a7 a8 a9 b16
    rw [hco] at a10 b32
    rw [e3]
    have a10' : ¬ co > mostI dp := by rw [hdT, Bool.true_and, decide_eq_false_iff_not] at a10; exact a10
    have a8' : fitsB mt dp = true := by simpa using a8
    have hM : mostI dp ≤ 256 ∧ 1 ≤ mostI dp ∧ (dp ≤ 8 → mostI dp = 2 ^ dp.toNat) := by rcases d with d | d | d | d | d | d <;> subst d <;> decide
    have top : mt = 1 ∨ mt = 2 → decide (H < 0) = false := fun hm => by
      rw [decide_eq_false_iff_not]
      intro hneg
      rw [decide_eq_true hneg, Bool.true_and] at a9
      rcases hm with hm | hm <;> subst hm <;> cases a9
    refine ⟨?_, ?_, ⟨b16, by show mt ≤ 3; omega⟩, fun hh => ⟨?_, top (Or.inl hh)⟩, fun hh => ⟨?_, top (Or.inr hh)⟩, fun hh => ?_, ?_, ?_⟩
    · show 1 ≤ if H < 0 then -H else H; split <;> omega
    · show (if H < 0 then -H else H) ≤ 16384; split <;> omega
    · have hh : mt = 1 := hh
      subst hh; unfold fitsB at a8'; simpa using a8'
    · have hh : mt = 2 := hh
      subst hh; unfold fitsB at a8'; simpa using a8'
    · have hh : mt = 3 := hh
      subst hh; unfold fitsB at a8'; simpa using a8'
    · show 0 ≤ (if co = 0 ∧ dp ≤ 8 then mostI dp else co) ∧ (if co = 0 ∧ dp ≤ 8 then mostI dp else co) ≤ 256
      split <;> omega
    · show dp ≤ 8 → 1 ≤ (if co = 0 ∧ dp ≤ 8 then mostI dp else co) ∧ (if co = 0 ∧ dp ≤ 8 then mostI dp else co) ≤ 2 ^ dp.toNat
      intro h8
      have := hM.2.2 h8
      rw [← this]
      split <;> omega
theorem rbad_ne {k a : Int} {H : Hd} {r g b q fr en : Int} (hk : k ≠ 0) (h : rBad20 k a = rOk H r g b q fr en) : False := by
  have h1 : (rBad20 k a)[13]? = (rOk H r g b q fr en)[13]? := by rw [h]
  have h2 : some (Value.int .i64 k) = some (Value.int .i64 0) := h1
  injection h2 with h2; injection h2 with h2 h3
  exact hk h3
theorem rok_first {s : ByteArray} {p : Nat} {H : Hd} {r g b q fr en : Int} (h : rRead20 s p = rOk H r g b q fr en) : headsB (lowK s p 4) = true ∧ (p : Int) + lowK s p 4 ≤ s.size ∧ (firstW (fdOf (s.extract p (p + (lowK s p 4).toNat)))).2 = false := by
  have b0 := (lowK_bd s p 4).1
  unfold rRead20 at h
  by_cases h1 : s.size < p + 4
  · rw [if_pos h1] at h; exact (rbad_ne (by decide) h).elim
  rw [if_neg h1] at h
  by_cases h2 : (lowK s p 4 == 16 || lowK s p 4 == 64) = true
  · rw [if_pos h2] at h; exact (rbad_ne (by decide) h).elim
  rw [if_neg h2] at h
  by_cases h3 : headsB (lowK s p 4) = false
  · rw [if_pos h3] at h; exact (rbad_ne (by decide) h).elim
  rw [if_neg h3] at h
  by_cases h4 : (s.size : Int) < p + lowK s p 4
  · rw [if_pos h4] at h; exact (rbad_ne (by decide) h).elim
  rw [if_neg h4] at h
  refine ⟨by simpa using h3, by omega, ?_⟩
  have hz : (s.extract p (p + (lowK s p 4).toNat)).size = (lowK s p 4).toNat := by rw [ByteArray.size_extract]; omega
  obtain ⟨bb, hbb⟩ : ∃ bb, s.extract p (p + (lowK s p 4).toNat) = bb := ⟨_, rfl⟩
  rw [hbb] at h hz ⊢
  by_cases h5 : (lowK s p 4 == 12) = true
  · rw [if_pos h5] at h
    have e12 : bb.size = 12 := by rw [hz]; rw [beq_iff_eq] at h5; omega
    have e1 : fdOf bb = smallF bb := by unfold fdOf; rw [if_pos e12]
    unfold rShort at h
    by_cases h6 : (firstW (smallF bb)).2 = true
    · rw [if_pos h6] at h
      exact (rbad_ne (by rw [← e1]; exact fdOf_kind bb (by rw [e1]; exact h6)) h).elim
    · rw [e1]; simpa using h6
  · rw [if_neg h5] at h
    have e12 : bb.size ≠ 12 := by rw [hz]; intro hh; exact h5 (by rw [beq_iff_eq]; omega)
    have e1 : fdOf bb = greatF bb := by unfold fdOf; rw [if_neg e12]
    by_cases h6 : (firstW (greatF bb)).2 = true
    · rw [if_pos h6] at h
      exact (rbad_ne (by rw [← e1]; exact fdOf_kind bb (by rw [e1]; exact h6)) h).elim
    · rw [e1]; simpa using h6
/-! ### entries -/
theorem colsL_len (t : ByteArray) (k : Nat) : ∀ m, (colsL t k m).length = 4 * m
  | 0 => rfl
  | m + 1 => by rw [colsL, List.length_append, colsL_len t k m]; show 4 * m + 4 = _; omega
theorem colsL_px (t : ByteArray) (k : Nat) : ∀ m e, e < m → pxC (colsL t k m) e = entC (t.extract (e * k) t.size)
  | 0, e, h => by omega
  | m + 1, e, h => by
    unfold pxC
    rw [colsL]
    by_cases h1 : e < m
    · have hl := colsL_len t k m
      rw [List.drop_append_of_le_length (by omega), List.take_append_of_le_length (by rw [List.length_drop]; omega)]
      exact colsL_px t k m e h1
    · obtain rfl : e = m := by omega
      rw [List.drop_append_of_le_length (by rw [colsL_len]; omega), List.drop_of_length_le (by rw [colsL_len]; omega), List.nil_append]
      rfl
theorem colsL_all (t : ByteArray) (k : Nat) : ∀ m, ∀ u ∈ colsL t k m, u.oneCell' = true
  | 0, u, h => by cases h
  | m + 1, u, h => by
    rw [colsL] at h
    rcases List.mem_append.1 h with h | h
    · exact colsL_all t k m u h
    · unfold entC at h; simp at h; rcases h with h | h | h | h <;> subst h <;> rfl
theorem ent_px (K : JK) (e : Nat) (s : ByteArray) (a sz te : Nat) (hsz : sz = 3 ∨ sz = 4) (hb : K.p.b4 e = col3 (s.extract (a + sz * e) (a + sz * e + sz))) (hin : a + sz * e + sz ≤ te) (hte : te ≤ s.size) :
    K.px e = entC ((s.extract a te).extract (e * sz) (s.extract a te).size) := by
  have hz : (s.extract a te).size = te - a := by rw [ByteArray.size_extract]; omega
  have hes : e * sz = sz * e := Nat.mul_comm _ _
  have key : ∀ j, j < 3 → byN ((s.extract a te).extract (e * sz) (s.extract a te).size) j = byN (s.extract (a + sz * e) (a + sz * e + sz)) j := by
    intro j hj
    rw [byN_ext (s.extract a te) (e * sz) (s.extract a te).size j (by rw [hz, hes]; omega) (Nat.le_refl _), byN_ext s a te (e * sz + j) (by rw [hes]; omega) hte, byN_ext s (a + sz * e) (a + sz * e + sz) j (by omega) (by omega), hes]
    congr 1; omega
  have hent : K.p.ent e = strOf (K.p.b4 e) := rfl
  unfold JK.px entC
  rw [Int.toNat_natCast, hent, hb, key 0 (by decide), key 1 (by decide), key 2 (by decide)]
  have g : ∀ j x, (col3 (s.extract (a + sz * e) (a + sz * e + sz)))[j]? = some x → 0 ≤ x → x < 256 → byN (strOf (col3 (s.extract (a + sz * e) (a + sz * e + sz)))) j = x := fun j x h1 h2 h3 => byN_strOf3 _ j x h1 h2 h3
  rw [g 0 _ rfl (byN_bd _ _).1 (byN_bd _ _).2, g 1 _ rfl (byN_bd _ _).1 (byN_bd _ _).2, g 2 _ rfl (byN_bd _ _).1 (byN_bd _ _).2, g 3 255 rfl (by decide) (by decide)]
structure TabOf (s : ByteArray) (a kd co : Nat) (L : Nat) (p : Pal) : Prop where
  n : p.n = co
  L : p.b.L = L
  ent : ∀ j, j < co → p.b4 j = col3 (s.extract (a + kd * j) (a + kd * j + kd))
structure RleRich (w : World) (X RR : Nat) (x : Sr) (l : Led) (p : Pal) (r : Ras) (W H M : Nat) (dp f : Int) (tb : List Value) (fu : Nat) (e : Ending) (w' : World) : Prop where
  y : ∃ (y : Sr) (m : Led) (d : List Int) (k : Nat) (t : Int × Int), e = .returned (.agg (fc f t).toArray) ∧ Pair w' X y m ∧ y.L = x.L ∧ y.p ≤ x.e ∧ RasAt w' RR { r with b := { r.b with d := d } } ∧ m = { l with st := l.st + k } ∧ x.p + k ≤ y.p + W * H + 1 ∧
    (match rle22 x.s tb M W H dp x.e fu ⟨0, 0, x.p, u8s r.b.d⟩ with
      | .error z => t = z ∧ z.1 ≠ 0
      | .ok L => t = (0, 0) ∧ u8s d = L)
  c : Chg (fun k => k = X ∨ k = x.L ∨ k = r.b.g) w w'
end Go.Proofs.YtlfbaggcfaenlaaGreat

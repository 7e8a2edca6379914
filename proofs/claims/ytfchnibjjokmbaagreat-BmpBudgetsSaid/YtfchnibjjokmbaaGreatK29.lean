/- Parts. -/
import Derived.Test.YtfchnibjjokmbaaGreatK28
set_option linter.all false
set_option maxRecDepth 100000
set_option maxHeartbeats 16000000
open Go.Value renaming int → J, pointer → Y
open Go.IntKind renaming i64 → I, u8 → U
namespace Go.Proofs.YtfchnibjjokmbaaGreat
open Go.RowKit
theorem next_p (x : Sr) (l : Led) (n : Int) : ∃ q, (x.next l n).1.1 = { x with p := q } := by
 unfold Sr.next; split
 · exact ⟨_, rfl⟩
 · exact ⟨x.p, rfl⟩
theorem tkRes_p (x : Sr) (l : Led) (f : Int) : ∃ q, (ac x l f).2.1 = { x with p := q } := by
 have h1 := next_p x l 4
 have h2 : ∃ q, ((x.next l 4).1.1.next (x.next l 4).1.2 (aC (x.next l 4).2.1 0 4 - 4)).1.1 = { x with p := q } := by
  obtain ⟨q, hq⟩ := next_p (x.next l 4).1.1 (x.next l 4).1.2 (aC (x.next l 4).2.1 0 4 - 4)
  obtain ⟨q1, hq1⟩ := h1
  exact ⟨q, by rw [hq, hq1]⟩
 unfold ac
 split
 · exact h1
 split
 · exact h1
 split
 · exact h2
 · exact h2
theorem hRun_p (x : Sr) (l : Led) (f : Int) (b : ByteArray) (y : Sr) (m : Led) (h : Hd) (F : Fnd × Bool) (hy : ∃ q, y = { x with p := q }) : ∃ q, (hRun x l f b y m h F).2.1 = { x with p := q } := by
 have h2 : ∃ q, (y.next m 12).1.1 = { x with p := q } := by
  obtain ⟨q, hq⟩ := next_p y m 12
  obtain ⟨q1, hq1⟩ := hy
  exact ⟨q, by rw [hq, hq1]⟩
 unfold hRun
 split
 · exact hy
 split
 · split
   · split
     · exact h2
     · exact h2
   · exact hy
 · exact hy
theorem hRead_p (x : Sr) (l : Led) (f : Int) : ∃ q, (aJ x l f).2.1 = { x with p := q } := by
 unfold aJ
 split
 · exact tkRes_p x l f
 · exact hRun_p _ _ _ _ _ _ _ _ (tkRes_p x l f)
theorem faultL_kf (y : Sr) (m : Led) (f : Int) : ∃ k p : Int, k ≠ 0 ∧ aK y m f = [J I k, J I f, J I p] := by
 unfold aK; split
 · exact ⟨4, _, by decide, rfl⟩
 · exact ⟨1, _, by decide, rfl⟩
theorem tk_badf {x : Sr} {l : Led} (f : Int) (h : tkOk x l = false) : ∃ k p : Int, k ≠ 0 ∧ (ac x l f).1.2 = [J I k, J I f, J I p] := by
 unfold tkOk at h
 unfold ac
 by_cases h1 : (x.next l 4).2.2 = false
 · rw [if_pos h1]
   exact faultL_kf _ _ f
 rw [if_neg h1]
 rw [show (x.next l 4).2.2 = true by simpa using h1, Bool.true_and] at h
 by_cases h2 : aU (aC (x.next l 4).2.1 0 4) = false
 · rw [if_pos h2]
   exact ⟨_, _, by split <;> decide, rfl⟩
 rw [if_neg h2]
 rw [show aU (aC (x.next l 4).2.1 0 4) = true by simpa using h2, Bool.true_and] at h
 rw [if_pos h]
 exact faultL_kf _ _ f
theorem hd_co (b : ByteArray) : 0 ≤ (ao b).co ∧ (ao b).co ≤ 4294967296 := by
 unfold ao
 split
 · unfold smallH
   have := ah b 10 2
   dsimp only
   split
   · rename_i h
     obtain ⟨n, hn⟩ : ∃ n : Nat, aC b 10 2 = n := ⟨_, (Int.toNat_of_nonneg this.1).symm⟩
     rw [hn] at h ⊢
     have h8 : n ≤ 8 := by omega
     rw [Int.toNat_natCast]
     have : n = 0 ∨ n = 1 ∨ n = 2 ∨ n = 3 ∨ n = 4 ∨ n = 5 ∨ n = 6 ∨ n = 7 ∨ n = 8 := by omega
     rcases this with rfl | rfl | rfl | rfl | rfl | rfl | rfl | rfl | rfl <;> decide
   · decide
 · unfold greatH
   have h32 := lowK4_bd b 32
   have := ah b 14 2
   dsimp only
   split
   · rename_i h
     obtain ⟨n, hn⟩ : ∃ n : Nat, aC b 14 2 = n := ⟨_, (Int.toNat_of_nonneg this.1).symm⟩
     rw [hn] at h ⊢
     have h8 : n ≤ 8 := by omega
     have : n = 0 ∨ n = 1 ∨ n = 2 ∨ n = 3 ∨ n = 4 ∨ n = 5 ∨ n = 6 ∨ n = 7 ∨ n = 8 := by omega
     rcases this with rfl | rfl | rfl | rfl | rfl | rfl | rfl | rfl | rfl <;> decide
   · omega
def HShape (f : Int) (R : List Value × List Value) : Prop :=
 (∃ k p : Int, k ≠ 0 ∧ R = (zero16, [J I k, J I f, J I p])) ∨
 (∃ (h : Hd) (k0 k1 k2 k3 k4 k5 k6 k7 fr : Int), 0 ≤ h.co ∧ h.co ≤ 4294967296 ∧ R = (h.at [k0, k1, k2, k3, k4, k5, k6, k7] fr, zero3))
theorem hEnd_shape (b : ByteArray) (h : Hd) (f p : Int) (hc : 0 ≤ h.co ∧ h.co ≤ 4294967296) : HShape f (hEnd b h f p) := by
 unfold hEnd
 split
 · exact Or.inl ⟨2, _, by decide, rfl⟩
 · obtain ⟨k0, k1, k2, k3, k4, k5, k6, k7, e⟩ := mk8_8 (mkL b h.sz) h.dp
   exact Or.inr ⟨h, k0, k1, k2, k3, k4, k5, k6, k7, p, hc.1, hc.2, by rw [e]⟩
theorem hRun_shape (x : Sr) (l : Led) (f : Int) (b : ByteArray) (y : Sr) (m : Led) (h : Hd) (F : Fnd × Bool) (hc : 0 ≤ h.co ∧ h.co ≤ 4294967296) (hF : F.2 = true → F.1.2.1 ≠ 0) : HShape f (hRun x l f b y m h F).1 := by
 unfold hRun
 split
 · rename_i h1
   exact Or.inl ⟨_, _, hF h1, rfl⟩
 split
 · split
   · split
     · exact hEnd_shape _ _ _ _ hc
     · obtain ⟨k, p, hk, e⟩ := faultL_kf (y.next m 12).1.1 (y.next m 12).1.2 f
       exact Or.inl ⟨k, p, hk, by rw [e]⟩
   · exact hEnd_shape _ _ _ _ hc
 · obtain ⟨k0, k1, k2, k3, k4, k5, k6, k7, e⟩ := com8 h.dp
   exact Or.inr ⟨h, k0, k1, k2, k3, k4, k5, k6, k7, x.p, hc.1, hc.2, by rw [e]⟩
theorem hRead_shape (x : Sr) (l : Led) (f : Int) : HShape f (aJ x l f).1 := by
 unfold aJ
 split
 · rename_i h
   obtain ⟨k, p, hk, e⟩ := tk_badf f h
   exact Or.inl ⟨k, p, hk, by rw [e]⟩
 · exact hRun_shape _ _ _ _ _ _ _ _ (hd_co _) (fdOf_kind _)
def DecEnd (X L : Nat) (Rel : Sr → Led → Option (Int × Int × List Int) → Int × Int → Prop) (w : World) (e : Ending) (w' : World) : Prop :=
 ∃ y m o t, Pair w' X y m ∧ y.L = L ∧ Chg (fun k => k = X ∨ k = L) w w' ∧ Rel y m o t ∧ (match o with
  | none => e = .returned (.tuple #[Y none, .agg (fc 1 t).toArray])
  | some (W, H, d) => ∃ R B g, e = .returned (.tuple #[Y (some ⟨R, 0, none⟩), .agg (fc 1 (0, 0)).toArray]) ∧ RasAt w' R ⟨L, W.toNat, H.toNat, B, true, ⟨L, g, d, true⟩⟩ ∧ w.heap.size ≤ R ∧ w.heap.size ≤ B ∧ w.heap.size ≤ g)
def pixLo (x y : Sr) (h : Hd) : Int := (y.p : Int) - x.p + (if h.sz = 12 then 3 else 4) * h.co
def DecRel (x : Sr) (l : Led) (BD : Hd → List Int → Int → Sr → Led → Option (List Int) → Int × Int → Prop) (y : Sr) (m : Led) (o : Option (Int × Int × List Int)) (t : Int × Int) : Prop :=
 ((x.bbeg l).2.2.1 ≠ 0 ∧ y = (x.bbeg l).1.1 ∧ m = (x.bbeg l).1.2 ∧ o = none ∧ t = (x.bbeg l).2.2) ∨
 ((x.bbeg l).2.2.1 = 0 ∧
   ((∃ k p : Int, k ≠ 0 ∧ (aJ (x.bbeg l).1.1 (x.bbeg l).1.2 1).1 = (zero16, [J I k, J I 1, J I p]) ∧ y = (aJ (x.bbeg l).1.1 (x.bbeg l).1.2 1).2.1 ∧ m = (aJ (x.bbeg l).1.1 (x.bbeg l).1.2 1).2.2 ∧ o = none ∧ t = (k, p)) ∨
    (∃ (h : Hd) (k0 k1 k2 k3 k4 k5 k6 k7 fr : Int), (aJ (x.bbeg l).1.1 (x.bbeg l).1.2 1).1 = (h.at [k0, k1, k2, k3, k4, k5, k6, k7] fr, zero3) ∧
     (((x.bbeg l).2.1 < pixLo x (aJ (x.bbeg l).1.1 (x.bbeg l).1.2 1).2.1 h ∧ y = (aJ (x.bbeg l).1.1 (x.bbeg l).1.2 1).2.1 ∧ m = (aJ (x.bbeg l).1.1 (x.bbeg l).1.2 1).2.2 ∧ o = none ∧ t = (2, (x.p : Int) + 10)) ∨
      (pixLo x (aJ (x.bbeg l).1.1 (x.bbeg l).1.2 1).2.1 h ≤ (x.bbeg l).2.1 ∧ (x.e : Int) - x.p < (x.bbeg l).2.1 ∧ y = (aJ (x.bbeg l).1.1 (x.bbeg l).1.2 1).2.1 ∧ m = (aJ (x.bbeg l).1.1 (x.bbeg l).1.2 1).2.2 ∧ o = none ∧ t = (1, (x.e : Int))) ∨
      (pixLo x (aJ (x.bbeg l).1.1 (x.bbeg l).1.2 1).2.1 h ≤ (x.bbeg l).2.1 ∧ (x.bbeg l).2.1 ≤ (x.e : Int) - x.p ∧ ∃ o', BD h [k0, k1, k2, k3, k4, k5, k6, k7] fr y m o' t ∧ o = o'.map fun d => (h.w, h.h, d))))))
def Led.up (l : Led) (M : Int) : Led := { l with mx := M }
theorem work_up {l : Led} {M : Int} (hM : l.mx ≤ M) (h : (l.work 1).1.br = false) : (l.work 1).2 = true ∧ (l.up M).work 1 = ((l.work 1).1.up M, true) := by
 unfold Led.work at h ⊢
 by_cases hb : l.br = true
 · rw [if_pos hb] at h; rw [show (l, false).1.br = l.br from rfl, hb] at h; cases h
 · rw [if_neg hb] at h ⊢
   rw [if_neg (show ¬ (l.up M).br = true from hb)]
   by_cases hc : (1 : Int) < 0 ∨ l.mx - l.st < 1
   · rw [if_pos hc] at h; cases h
   · rw [if_neg hc, if_neg (show ¬ ((1 : Int) < 0 ∨ (l.up M).mx - (l.up M).st < 1) from by show ¬ ((1 : Int) < 0 ∨ M - l.st < 1); omega)]
     exact ⟨rfl, rfl⟩
theorem work_yes {l : Led} {n : Int} (h : (l.work n).2 = true) : (l.work n).1.br = false := by
 unfold Led.work at h ⊢
 by_cases hb : l.br = true
 · rw [if_pos hb] at h; cases h
 · rw [if_neg hb] at h ⊢
   by_cases hc : n < 0 ∨ l.mx - l.st < n
   · rw [if_pos hc] at h; cases h
   · rw [if_neg hc]; exact Bool.eq_false_iff.2 hb
theorem work_mx (l : Led) (n : Int) : (l.work n).1.mx = l.mx := by unfold Led.work; split; rfl; split <;> rfl
theorem next_mx (x : Sr) (l : Led) (n : Int) : (x.next l n).1.2.mx = l.mx := by unfold Sr.next; split <;> exact work_mx l 1
theorem next_br {x : Sr} {l : Led} {n : Int} (h : (x.next l n).2.2 = true) : (x.next l n).1.2.br = false := by
 obtain ⟨h1, h2, h3, h4, h5, h6⟩ := next_ok h
 rw [h5]; exact work_yes h1
theorem next_up {x : Sr} {l : Led} {n M : Int} (hM : l.mx ≤ M) (h : (x.next l n).1.2.br = false) : x.next (l.up M) n = (((x.next l n).1.1, (x.next l n).1.2.up M), (x.next l n).2) := by
 have hw : (l.work 1).1.br = false := by unfold Sr.next at h; split at h <;> exact h
 obtain ⟨h1, h2⟩ := work_up hM hw
 unfold Sr.next
 rw [h2]
 by_cases hc : 0 ≤ n ∧ n ≤ (x.e : Int) - x.p
 · rw [if_pos ⟨rfl, hc⟩, if_pos ⟨h1, hc⟩]
 · rw [if_neg (fun hh => hc hh.2), if_neg (fun hh => hc hh.2)]
def no4 (c : List Value) : Prop := ∀ a b : Value, c ≠ [J I 4, a, b]
theorem no4_k {k : Int} (h : k ≠ 4) (a b : Value) : no4 [J I k, a, b] := fun a' b' e => by injection e with e1; injection e1 with _ e2; exact h e2
theorem no4_fault {y : Sr} {m : Led} (f : Int) (h : m.br = false) : no4 (aK y m f) := by unfold aK; rw [if_neg (by rw [h]; decide)]; exact no4_k (by decide) _ _
theorem fdOf_kind4 (b : ByteArray) (h : (aO (fdOf b)).2 = true) : (aO (fdOf b)).1.2.1 ≠ 4 := by
 have hin := firstW_in h
 have key : ∀ r ∈ fdOf b, r.2.1 ≠ 4 := by
  unfold fdOf; split
  · unfold smallF sidesF; intro r hr; simp at hr; rcases hr with rfl | rfl | rfl | rfl | rfl | rfl <;> simp
  · unfold aj sidesF; intro r hr; simp at hr; rcases hr with rfl | rfl | rfl | rfl | rfl | rfl | rfl | rfl | rfl | rfl <;> simp
 exact key _ hin
def HUp (x : Sr) (M f : Int) (R R' : (List Value × List Value) × (Sr × Led)) : Prop :=
 (R.2.2.br = true ∧ R.1 = (zero16, aK R.2.1 R.2.2 f)) ∨ (R.2.2.br = false ∧ R' = (R.1, (R.2.1, R.2.2.up M)) ∧ no4 R.1.2)
theorem hup_fault {x : Sr} {M f : Int} {R R' : (List Value × List Value) × (Sr × Led)} (y : Sr) (m : Led) (h : R = ((zero16, aK y m f), (y, m))) (h' : m.br = false → R' = ((zero16, aK y m f), (y, m.up M))) : HUp x M f R R' := by
 subst h
 cases hb : m.br with
 | true => exact Or.inl ⟨hb, rfl⟩
 | false => exact Or.inr ⟨hb, h' hb, no4_fault f hb⟩
theorem hEnd_no4 (b : ByteArray) (h : Hd) (f p : Int) : no4 (hEnd b h f p).2 := by
 unfold hEnd
 split
 · exact no4_k (by decide) _ _
 · exact no4_k (by decide) _ _
theorem hRun_up {x : Sr} {l l' : Led} {f M : Int} {b : ByteArray} {y : Sr} {m : Led} {h : Hd} {F : Fnd × Bool} (hM : m.mx ≤ M) (hb : m.br = false) (hF : F.2 = true → F.1.2.1 ≠ 4) : HUp x M f (hRun x l f b y m h F) (hRun x l' f b y (m.up M) h F) := by
 by_cases h1 : F.2 = true
 · have e : ∀ l m, hRun x l f b y m h F = ((zero16, [J I F.1.2.1, J I f, J I (x.p + F.1.2.2)]), (y, m)) := fun l m => by unfold hRun; rw [if_pos h1]
   rw [e, e]
   exact Or.inr ⟨hb, rfl, no4_k (hF h1) _ _⟩
 by_cases h2 : (h.mt == 3) = true
 · by_cases h3 : (h.sz == 40) = true
   · have e : ∀ l m, hRun x l f b y m h F = (if (y.next m 12).2.2 = true then (hEnd (b ++ (y.next m 12).2.1) h f x.p, (y.next m 12).1) else ((zero16, aK (y.next m 12).1.1 (y.next m 12).1.2 f), (y.next m 12).1)) := fun l m => by unfold hRun; rw [if_neg h1, if_pos h2, if_pos h3]
     rw [e, e]
     by_cases h4 : (y.next m 12).2.2 = true
     · have hbr := next_br h4
       rw [next_up hM hbr, if_pos h4, if_pos h4]
       exact Or.inr ⟨hbr, rfl, hEnd_no4 _ _ _ _⟩
     · rw [if_neg h4]
       refine hup_fault (y.next m 12).1.1 (y.next m 12).1.2 rfl (fun hbr => ?_)
       rw [next_up hM hbr, if_neg h4]
       rfl
   · have e : ∀ l m, hRun x l f b y m h F = (hEnd b h f x.p, (y, m)) := fun l m => by unfold hRun; rw [if_neg h1, if_pos h2, if_neg h3]
     rw [e, e]
     exact Or.inr ⟨hb, rfl, hEnd_no4 _ _ _ _⟩
 · have e : ∀ l m, hRun x l f b y m h F = ((h.at (comM h.dp) x.p, zero3), (y, m)) := fun l m => by unfold hRun; rw [if_neg h1, if_neg h2]
   rw [e, e]
   exact Or.inr ⟨hb, rfl, no4_k (by decide) _ _⟩
theorem hRead_up (x : Sr) (l : Led) (f M : Int) (hM : l.mx ≤ M) (hb : l.br = false) : HUp x M f (aJ x l f) (aJ x (l.up M) f) := by
 obtain ⟨A, hA⟩ : ∃ A, x.next l 4 = A := ⟨_, rfl⟩
 have hAm : A.1.2.mx = l.mx := by rw [← hA]; exact next_mx x l 4
 have hup : A.1.2.br = false → x.next (l.up M) 4 = ((A.1.1, A.1.2.up M), A.2) := fun h => by rw [next_up hM (by rw [hA]; exact h), hA]
 by_cases ha : A.2.2 = false
 · have e : ∀ (l' : Led) (A' : (Sr × Led) × (ByteArray × Bool)), x.next l' 4 = A' → A'.2.2 = false → aJ x l' f = ((zero16, aK A'.1.1 A'.1.2 f), A'.1) := fun l' A' h1 h2 => by
    have e1 : tkOk x l' = false := by unfold tkOk; rw [h1, h2]; rfl
    unfold aJ
    rw [if_pos e1]
    unfold ac
    rw [h1, if_pos h2]
   refine hup_fault A.1.1 A.1.2 (e l A hA ha) (fun hbr => ?_)
   rw [e _ _ (hup hbr) ha]
   rfl
 have ha : A.2.2 = true := by cases hh : A.2.2 with | true => rfl | false => exact absurd hh ha
 have hbr : A.1.2.br = false := by have := next_br (x := x) (l := l) (n := 4) (by rw [hA]; exact ha); rw [hA] at this; exact this
 have hU := hup hbr
 by_cases hh : aU (aC A.2.1 0 4) = false
 · have e : ∀ (l' : Led) (A' : (Sr × Led) × (ByteArray × Bool)), x.next l' 4 = A' → A'.2.2 = true → aU (aC A'.2.1 0 4) = false → aJ x l' f = ((zero16, [J I (if knownH (aC A'.2.1 0 4) = true then 3 else 2), J I f, J I x.p]), A'.1) := fun l' A' h1 h2 h3 => by
    have e1 : tkOk x l' = false := by unfold tkOk; rw [h1, h2, h3]; rfl
    unfold aJ
    rw [if_pos e1]
    unfold ac
    rw [h1, if_neg (by rw [h2]; decide), if_pos h3]
   rw [e _ _ hA ha hh, e _ _ hU ha hh]
   exact Or.inr ⟨hbr, rfl, no4_k (by split <;> decide) _ _⟩
 have hh : aU (aC A.2.1 0 4) = true := by cases h9 : aU (aC A.2.1 0 4) with | true => rfl | false => exact absurd h9 hh
 obtain ⟨B, hB⟩ : ∃ B, A.1.1.next A.1.2 (aC A.2.1 0 4 - 4) = B := ⟨_, rfl⟩
 have hBm : B.1.2.mx = l.mx := by rw [← hB, next_mx]; exact hAm
 have hupB : B.1.2.br = false → A.1.1.next (A.1.2.up M) (aC A.2.1 0 4 - 4) = ((B.1.1, B.1.2.up M), B.2) := fun h => by rw [next_up (by rw [hAm]; exact hM) (by rw [hB]; exact h), hB]
 by_cases hb2 : B.2.2 = false
 · have e : ∀ (l' : Led) (A' B' : (Sr × Led) × (ByteArray × Bool)), x.next l' 4 = A' → A'.2.2 = true → aU (aC A'.2.1 0 4) = true → A'.1.1.next A'.1.2 (aC A'.2.1 0 4 - 4) = B' → B'.2.2 = false → aJ x l' f = ((zero16, aK B'.1.1 B'.1.2 f), B'.1) := fun l' A' B' h1 h2 h3 h4 h5 => by
    have e1 : tkOk x l' = false := by unfold tkOk; rw [h1, h2, h3, h4, h5]; rfl
    unfold aJ
    rw [if_pos e1]
    unfold ac
    rw [h1, if_neg (by rw [h2]; decide), if_neg (by rw [h3]; decide), h4, if_pos h5]
   refine hup_fault B.1.1 B.1.2 (e l A B hA ha hh hB hb2) (fun hbr => ?_)
   rw [e _ _ _ hU ha hh (hupB hbr) hb2]
   rfl
 have hb2 : B.2.2 = true := by cases h9 : B.2.2 with | true => rfl | false => exact absurd h9 hb2
 have hbr2 : B.1.2.br = false := by have := next_br (x := A.1.1) (l := A.1.2) (n := aC A.2.1 0 4 - 4) (by rw [hB]; exact hb2); rw [hB] at this; exact this
 have e : ∀ (l' : Led) (A' B' : (Sr × Led) × (ByteArray × Bool)), x.next l' 4 = A' → A'.2.2 = true → aU (aC A'.2.1 0 4) = true → A'.1.1.next A'.1.2 (aC A'.2.1 0 4 - 4) = B' → B'.2.2 = true →
  aJ x l' f = hRun x l' f (A'.2.1 ++ B'.2.1) B'.1.1 B'.1.2 (ao (A'.2.1 ++ B'.2.1)) (aO (fdOf (A'.2.1 ++ B'.2.1))) := fun l' A' B' h1 h2 h3 h4 h5 => by
  have e1 : tkOk x l' = true := by unfold tkOk; rw [h1, h2, h3, h4, h5]; rfl
  have e2 : ac x l' f = ((A'.2.1 ++ B'.2.1, [J I 0, J I 0, J I 0]), B'.1) := by
   unfold ac
   rw [h1, if_neg (by rw [h2]; decide), if_neg (by rw [h3]; decide), h4, if_neg (by rw [h5]; decide)]
  unfold aJ
  rw [if_neg (by rw [e1]; decide), e2]
 rw [e _ _ _ hA ha hh hB hb2, e _ _ _ hU ha hh (hupB hbr2) hb2]
 exact hRun_up (by rw [hBm]; exact hM) hbr2 (fdOf_kind4 _)
theorem head_led (x : Sr) (l : Led) (f : Int) (hx : x.ok) (he : x.e = x.s.size) (hs : x.s.size ≤ 100000) (hl : l.ok) (hb : l.br = false) (hst : l.st ≤ 1000) :
 ((aJ x l f).2.2.br = true ∧ (aJ x l f).1 = (zero16, aK (aJ x l f).2.1 (aJ x l f).2.2 f)) ∨
 ((aJ x l f).2.2.br = false ∧
   ((∃ k a : Int, k ≠ 0 ∧ k ≠ 4 ∧ aZ x.s x.p = aN k a ∧ (aJ x l f).1 = (zero16, [J I k, J I f, J I a])) ∨
    (∃ (H : Hd) (r g b q : Int) (en : Nat), H.fine ∧ H.more ∧ aZ x.s x.p = rOk H r g b q x.p en ∧ (aJ x l f).1 = (H.at (hdM x.s x.p H) x.p, zero3) ∧ mWords (hdM x.s x.p H) r g b q ∧ (aJ x l f).2.1 = ⟨x.L, x.s, x.b, x.e, en⟩ ∧ en ≤ x.s.size ∧ x.p + 12 ≤ en))) := by
 have hs2 := hl.s2
 obtain ⟨M, hM1, hM2, hM3⟩ : ∃ M : Int, l.mx ≤ M ∧ 2000 ≤ M ∧ M ≤ 9223372036854775807 := by
  by_cases hc : 2000 ≤ l.mx
  · exact ⟨l.mx, Int.le_refl _, hc, hs2⟩
  · exact ⟨2000, by omega, Int.le_refl _, by decide⟩
 have hlu : (l.up M).ok := ⟨hl.b0, hl.b1, hl.b2, hl.s0, by show l.st ≤ M; omega, hM3⟩
 rcases hRead_up x l f M hM1 hb with h | ⟨h1, h2, h3⟩
 · exact Or.inl h
 refine Or.inr ⟨h1, ?_⟩
 have e1 : (aJ x (l.up M) f).1 = (aJ x l f).1 := by rw [h2]
 have e2 : (aJ x (l.up M) f).2.1 = (aJ x l f).2.1 := by rw [h2]
 rcases dib_eq x (l.up M) f hx he hs hb (by show l.st + 3 ≤ M; omega) with ⟨k, a, k1, k2, k3⟩ | ⟨H, m, r, g, b, q, en, k1, k2, k3, k4⟩
 · rw [e1] at k3
   refine Or.inl ⟨k, a, k1, fun k4 => ?_, k2, k3⟩
   subst k4
   rw [k3] at h3
   exact h3 _ _ rfl
 · rcases head_eq x (l.up M) f hx he hs hlu hb (by show l.st + 3 < M; omega) with ⟨k, a, j1, j2⟩ | ⟨H, r, g, b, q, en, k, j1, j2, j3, j4, j5, j6, j7, j8, j9, j10⟩
   · exact (rbad_ne j1 (j2.symm.trans k2)).elim
   · exact Or.inr ⟨H, r, g, b, q, en, j1, j2, j3, by rw [← e1]; exact j4, j5, by rw [← e2]; exact j6, j7, j8⟩
def bRef (s : ByteArray) (e en kd W H dp co : Nat) (top : Bool) (mt r g b q : Int) (a : Nat) : E22 (List Value) :=
 if mt = 1 ∨ mt = 2 then rle22 s (colsL (s.extract en s.size) kd co) co W H dp e (e + 1) ⟨0, 0, a, aY (aI (W * H * 4))⟩
 else rows21 ⟨W, H, top, dp, r, g, b, q⟩ s (colsL (s.extract en s.size) kd co) co e a H 0 (aY (aI (W * H * 4)))
def bCost (e W H : Nat) : Nat := e + W * H + 1 + H * (2 * W + 1)
theorem PixR.mono {y : Sr} {m : Led} {c c' : Nat} {ref : E22 (List Value)} {y2 : Sr} {m2 : Led} {d : List Int} {t : Int × Int} (h : PixR y m c ref y2 m2 d t) (hc : c ≤ c') : PixR y m c' ref y2 m2 d t := by
 obtain ⟨h1, h2, h3, h4, h5, h6, h7⟩ := h
 exact ⟨h1, h2, by omega, h4, fun hh => h5 (by omega), h6, h7⟩
theorem to_same (y : Sr) (a : Int) : (y.to a).s = y.s ∧ (y.to a).b = y.b ∧ (y.to a).e = y.e ∧ (y.to a).L = y.L := by
 unfold Sr.to Sr.seek
 split
 · split
   · exact ⟨rfl, rfl, rfl, rfl⟩
   · exact ⟨rfl, rfl, rfl, rfl⟩
 · exact ⟨rfl, rfl, rfl, rfl⟩
def PxP (x : Sr) (kd W H dp co : Nat) (top : Bool) (mt r g b q : Int) (pv : Option (Nat × Pal)) (y : Sr) (m : Led) : Sr → Led → List Int → Int × Int → Prop :=
 PixR y m (bCost x.e W H) (bRef x.s x.e x.p kd W H dp co top mt r g b q y.p)
def BodR (x : Sr) (l : Led) (kd W H dp co : Nat) (top : Bool) (mt r g b q : Int) (at_ : Int) : Sr → Led → Option (List Int) → Int × Int → Prop :=
 BodyRel x l W H (PxRel (TabR x (ai l W H).1 kd co dp) (PxP x kd W H dp co top mt r g b q) (aI (W * H * 4)) at_)
theorem pixR_z {y : Sr} {m : Led} {c : Nat} {ref : E22 (List Value)} {y2 : Sr} {m2 : Led} {d : List Int} {t : Int × Int} (h : PixR y m c ref y2 m2 d t) (h0 : t.1 = 0) : t = (0, 0) ∧ m2.br = false := by
 obtain ⟨h1, h2, h3, h4, h5, h6, h7⟩ := h
 cases hb : m2.br with
 | true => have := (h6 hb).1; omega
 | false =>
   have := h7 hb
   refine ⟨?_, rfl⟩
   cases ref with
   | error z => exact absurd h0 (by rw [this.1]; exact this.2)
   | ok L => exact this.1
theorem body_led (sz : Int) (W H : Nat) (top : Bool) (dp : Nat) (mt : Int) (co : Nat) (k : Nat → Int) (fr at_ f : Int) (X L : Nat) (x : Sr) (l : Led) (r g b q : Int) (kd : Nat) (w : World) (hx : Pair w X x l) (hL : x.L = L) (hb : l.br = false) (hs : x.s.size < 1000000000)
 (hW : 1 ≤ W ∧ W ≤ 16384) (hH : 1 ≤ H ∧ H ≤ 16384) (hd : dpOk dp) (hm1 : mt = 1 → dp = 8) (hm2 : mt = 2 → dp = 4) (hco1 : dp ≤ 8 → 1 ≤ co) (hco2 : co ≤ 256) (hkd : kd = if sz = 12 then 3 else 4)
 (p0 : pairOk (k 0) (k 1) r) (p1 : pairOk (k 2) (k 3) g) (p2 : pairOk (k 4) (k 5) b) (p3 : pairOk (k 6) (k 7) q) :
 Calls Tryz.prog 29 #[Y (some ⟨X, 0, none⟩), .agg (List.toArray [J I sz, J I W, J I H, .bool top, J I dp, J I mt, J I co, J I (k 0), J I (k 1), J I (k 2), J I (k 3), J I (k 4), J I (k 5), J I (k 6), J I (k 7), J I fr]), J I at_, J I f] w (BodyEnd X L W H f (BodR x l kd W H dp co top mt r g b q at_) w) := by
 subst hL
 have hk34 : kd = 3 ∨ kd = 4 := by rw [hkd]; split <;> simp
 have hok := hx.led.ok
 have hes := hx.src.ok.es
 have hl1 : (ai l W H).2 = true → (ai l W H).1.br = false := fun h2 => by
  unfold ai at h2 ⊢
  split at h2
  · cases h2
  rename_i c1
  rw [if_neg c1]
  split at h2
  · cases h2
  rename_i c2
  rw [if_neg c2]
  have hsd : (l.sides W H).1.ok ∧ (l.sides W H).1.br = false := by
   unfold Led.sides at c2 ⊢
   rw [if_neg (by rw [hb]; decide)] at c2 ⊢
   split at c2
   · exact absurd rfl c2
   rename_i c3
   rw [if_neg c3]
   split at c2
   · exact absurd rfl c2
   rename_i c4
   rw [if_neg c4]
   exact ⟨hok, hb⟩
  exact ((take_lk hsd.1 hsd.2 _).2.2.1 h2).2
 have e1 : ((W : Int)).toNat = W := Int.toNat_natCast W
 have e2 : ((H : Int)).toNat = H := Int.toNat_natCast H
 have hB := body_any sz W H top dp mt co (k 0) (k 1) (k 2) (k 3) (k 4) (k 5) (k 6) (k 7) fr at_ f X x.L x l (TabR x (ai l W H).1 kd co dp) (PxP x kd W H dp co top mt r g b q) w hx rfl
 rw [e1, e2] at hB
 refine hB ?_ ?_ ?_ (fun pv y m F h h0 => tabR_z h h0) ?_
 · intro h2 w0 h0
   exact table_all sz W H top dp mt co (k 0) (k 1) (k 2) (k 3) (k 4) (k 5) (k 6) (k 7) fr X x.L x _ f kd w0 h0 rfl hco1 hco2 hkd (hl1 h2)
 · intro hmt RR B g' hap d lo hi pv y m w0 hdl hT hP
   have hdp : dp = 8 ∨ dp = 4 := hmt.imp hm1 hm2
   obtain ⟨t1, t2, t3, t4, t5⟩ := hT
   rcases t5 with ⟨_, _, ⟨_, t6⟩ | ⟨_, t6, _⟩⟩ | ⟨_, tb, tin, ty, tp⟩
   · cases t6
   · cases t6
   rcases tp with ⟨_, P, p, rfl, pm, pt, _⟩ | ⟨c8, _⟩
   rotate_left
   · omega
   obtain ⟨q1, q2, q3, q4, q5⟩ := hP.pl P p rfl
   obtain ⟨y1, y2, y3, y4⟩ := to_same y at_
   have lX := hP.lX
   have lL := hP.lL
   have lg := hP.lg
   have lB := hP.lB
   have lR := hP.lR
   rw [t2.1] at y1
   rw [t2.2.1] at y2
   rw [t2.2.2.1] at y3
   rw [t2.2.2.2.1] at y4
   have hR := rle_all X P RR sz W H top dp mt co (k 0) (k 1) (k 2) (k 3) (k 4) (k 5) (k 6) (k 7) fr f (y.to at_) m p ⟨x.L, W, H, B, true, ⟨x.L, g', aI (W * H * 4), true⟩⟩ (x.e + 1) kd x.p co w0 hP.pr q1 hP.ra
    ⟨y4.symm, fun e => hap.2.2.2.2.1 e.symm, (by show P ≠ g'; have : g' < d := lg; omega), (by show p.B ≠ g'; have : g' < d := lg; omega), (by show p.b.g ≠ g'; have : g' < d := lg; omega), (by rw [y4]; omega), (by rw [y4]; omega), (by rw [y4]; omega), (by omega), (by omega), (by omega), hap.1, hap.2.2.1⟩
    rfl rfl rfl (by rcases hdp with h | h <;> rw [h] <;> simp) (by rw [y1]; exact hs) (by rw [y3]; omega) hk34 (by rw [y1, y4]; exact pt) (by rw [y1]; omega) tb
   rw [y1, y3, y4] at hR
   refine hR.mono ?_
   rintro e w' ⟨y9, m9, d9, t9, z1, z2, z3, z4, z5, z6⟩
   refine ⟨y9, m9, d9, t9, z1, z2, z3, z4, z5, ?_⟩
   unfold PxP bRef
   rw [if_pos hmt]
   exact z6.mono (by unfold bCost; omega)
 · intro n1 n2 RR B g' hap d lo hi pv y m w0 hdl hT hP
   obtain ⟨t1, t2, t3, t4, t5⟩ := hT
   rcases t5 with ⟨_, _, ⟨_, t6⟩ | ⟨_, t6, _⟩⟩ | ⟨_, tb, tin, ty, tp⟩
   · cases t6
   · cases t6
   obtain ⟨y1, y2, y3, y4⟩ := to_same y at_
   have lX := hP.lX
   have lL := hP.lL
   have lg := hP.lg
   have lB := hP.lB
   have lR := hP.lR
   rw [t2.1] at y1
   rw [t2.2.1] at y2
   rw [t2.2.2.1] at y3
   rw [t2.2.2.2.1] at y4
   obtain ⟨P, p, ov, hov, hpv, hpp⟩ : ∃ (P : Nat) (p : Pal) (ov : Option Addr), (ov = if decide (dp ≤ 8) = true then some ⟨P, 0, none⟩ else none) ∧ ptrOf pv = ov ∧ (dp ≤ 8 → PalAt w0 P p ∧ TabOf x.s x.p kd co x.L p ∧ (P ≠ X ∧ P ≠ x.L ∧ P ≠ g') ∧ (p.B ≠ X ∧ p.B ≠ x.L ∧ p.B ≠ g') ∧ (p.b.g ≠ X ∧ p.b.g ≠ x.L ∧ p.b.g ≠ g')) := by
    have lg : g' < d := lg
    rcases tp with ⟨c8, P, p, rfl, pm, pt, _⟩ | ⟨c8, rfl, _⟩
    · obtain ⟨q1, q2, q3, q4, q5⟩ := hP.pl P p rfl
      exact ⟨P, p, some ⟨P, 0, none⟩, by rw [decide_eq_true c8, if_pos rfl], rfl, fun _ => ⟨q1, pt, ⟨by omega, by omega, by omega⟩, ⟨by omega, by omega, by omega⟩, ⟨by omega, by omega, by omega⟩⟩⟩
    · exact ⟨0, ⟨0, ⟨0, 0, [], false⟩, 0, 0⟩, none, by rw [decide_eq_false c8, if_neg (by decide)], rfl, fun h => absurd h c8⟩
   have hR := rows_all X P RR sz ⟨W, H, top, dp, r, g, b, q⟩ mt co fr f k (y.to at_) m p ⟨x.L, W, H, B, true, ⟨x.L, g', aI (W * H * 4), true⟩⟩ ov kd x.p co w0 hov hP.pr (fun h => (hpp h).1) hP.ra
    ⟨y4.symm, fun e => hap.2.2.2.2.1 e.symm, hap.1, hap.2.2.1, fun h => by rw [y4]; exact (hpp (of_decide_eq_true h)).2.2.1, fun h => by rw [y4]; exact (hpp (of_decide_eq_true h)).2.2.2.1, fun h => by rw [y4]; exact (hpp (of_decide_eq_true h)).2.2.2.2⟩
    rfl rfl rfl hd p0 p1 p2 p3 hk34 (fun h => by rw [y1, y4]; exact (hpp h).2.1) (by rw [y1]; omega) tb
   rw [y1, y3, y4] at hR
   rw [hpv]
   refine hR.mono ?_
   rintro e w' ⟨y9, m9, d9, t9, z1, z2, z3, z4, z5, z6⟩
   refine ⟨y9, m9, d9, t9, z1, z2, z3, z4, z5, ?_⟩
   unfold PxP bRef
   rw [if_neg (show ¬ (mt = 1 ∨ mt = 2) from fun h => h.elim n1 n2)]
   exact z6.mono (by unfold bCost; show H * (2 * W + 1) ≤ _; omega)
 · rintro y m d t ⟨pv, y', m', F, hT, hc⟩ h0
   rcases hc with ⟨c1, _, _, _, rfl⟩ | ⟨_, _, _, _, _, rfl⟩ | ⟨_, _, m3, hp, _⟩
   · exact absurd h0 c1
   · cases h0
   · exact (pixR_z hp h0).1
def kdOf (sz : Int) : Nat := if sz = 12 then 3 else 4
/-! ### what is wrong with pixels is no refusal -/
theorem runP_kind (tb : List Value) (M : Nat) (b d : Int) (pl : Nat) : ∀ n z, runP tb M b d pl n = .error z → z.1 ≠ 4
 | 0, z, h => by cases h
 | n + 1, z, h => by
   rw [runP] at h
   cases hr : runP tb M b d pl n with
   | error e => rw [hr] at h; cases h; exact runP_kind tb M b d pl n _ hr
   | ok p =>
     rw [hr] at h
     simp only at h
     split at h
     · cases h
     · cases h; simp
theorem plainP_kind (s : ByteArray) (tb : List Value) (M : Nat) (d : Int) (pl te : Nat) : ∀ n z, ad s tb M d pl te n = .error z → z.1 ≠ 4
 | 0, z, h => by cases h
 | n + 1, z, h => by
   rw [ad] at h
   cases hr : ad s tb M d pl te n with
   | error e => rw [hr] at h; cases h; exact plainP_kind s tb M d pl te n _ hr
   | ok p =>
     rw [hr] at h
     simp only at h
     split at h
     · cases h; simp
     split at h
     · cases h
     · cases h; simp
theorem move22_kind {W H x y pl p0 : Nat} {L : List Value} {z : Int × Int} (h : move22 W H x y pl p0 L = .error z) : z.1 ≠ 4 := by
 unfold move22 at h
 split at h
 · cases h; simp
 · cases h
theorem step22_kind {s : ByteArray} {tb : List Value} {M W H : Nat} {d : Int} {te : Nat} {σ : S22} {z : Int × Int} (h : step22 s tb M W H d te σ = .error z) : z.1 ≠ 4 := by
 unfold step22 at h
 split at h
 · unfold run22 at h
   split at h
   · cases h; simp
   cases hr : runP tb M (aG s (σ.pl + 1)) d σ.pl (aG s σ.pl).toNat with
   | error e => rw [hr] at h; cases h; exact runP_kind _ _ _ _ _ _ _ hr
   | ok p => rw [hr] at h; cases h
 split at h
 · unfold plain22 at h
   split at h
   · cases h; simp
   cases hr : ad s tb M d σ.pl te (aG s (σ.pl + 1)).toNat with
   | error e => rw [hr] at h; cases h; exact plainP_kind _ _ _ _ _ _ _ _ hr
   | ok p =>
     rw [hr] at h
     simp only at h
     split at h
     · cases h; simp
     · cases h
 split at h
 · exact move22_kind h
 split at h
 · cases h; simp
 · exact move22_kind h
theorem rle22_kind (s : ByteArray) (tb : List Value) (M W H : Nat) (d : Int) (te : Nat) : ∀ f σ z, rle22 s tb M W H d te f σ = .error z → z.1 ≠ 4
 | 0, σ, z, h => by cases h; simp
 | f + 1, σ, z, h => by
   rw [rle22] at h
   split at h
   · cases h; simp
   split at h
   · cases h
   cases hr : step22 s tb M W H d te σ with
   | error e => rw [hr] at h; cases h; exact step22_kind hr
   | ok τ => rw [hr] at h; exact rle22_kind s tb M W H d te f τ z h
theorem bindE_kind {R : E22 (List Value)} {f : List Value → E22 (List Value)} {z : Int × Int} (h : bindE R f = .error z) (h1 : ∀ z, R = .error z → z.1 ≠ 4) (h2 : ∀ L z, f L = .error z → z.1 ≠ 4) : z.1 ≠ 4 := by
 unfold bindE at h
 cases R with
 | error e => cases h; exact h1 _ rfl
 | ok L => exact h2 L z h
theorem row21_kind (h : H21) (s : ByteArray) (tb : List Value) (M te fr y : Nat) : ∀ c x L z, row21 h s tb M te fr y c x L = .error z → z.1 ≠ 4
 | 0, x, L, z, hh => by cases hh
 | c + 1, x, L, z, hh => by
   rw [row21] at hh
   split at hh
   · cases hh; simp
   refine bindE_kind hh (fun z hz => ?_) (fun L z hz => row21_kind h s tb M te fr y c (x + 1) _ z hz)
   unfold px21 at hz
   split at hz
   · split at hz
     · cases hz
     · cases hz; simp
   split at hz <;> cases hz
theorem rows21_kind (h : H21) (s : ByteArray) (tb : List Value) (M te a : Nat) : ∀ m k L z, rows21 h s tb M te a m k L = .error z → z.1 ≠ 4
 | 0, k, L, z, hh => by cases hh
 | m + 1, k, L, z, hh => by
   rw [rows21] at hh
   refine bindE_kind hh (fun z hz => row21_kind _ _ _ _ _ _ _ _ _ _ _ hz) (fun L z hz => ?_)
   split at hz
   · cases hz; simp
   · exact rows21_kind h s tb M te a m (k + 1) L z hz
theorem bRef_kind {s : ByteArray} {e en kd W H dp co : Nat} {top : Bool} {mt r g b q : Int} {a : Nat} {z : Int × Int} (h : bRef s e en kd W H dp co top mt r g b q a = .error z) : z.1 ≠ 4 := by
 unfold bRef at h
 split at h
 · exact rle22_kind _ _ _ _ _ _ _ _ _ _ h
 · exact rows21_kind _ _ _ _ _ _ _ _ _ _ h
/-! ### what a file is by definition -/
def RefBody (s : ByteArray) (sz w h : Int) (top : Bool) (dp mt co r g b q : Int) (en : Nat) (a : Int) (O : Option (Int × Int × List Value)) (t : Int × Int) : Prop :=
 (a < en + kdOf sz * co ∧ O = none ∧ t = (2, 10)) ∨
 (en + kdOf sz * co ≤ a ∧ (s.size : Int) < a ∧ O = none ∧ t = (1, (s.size : Int))) ∨
 (en + kdOf sz * co ≤ a ∧ a ≤ s.size ∧ match bRef s s.size en (kdOf sz) w.toNat h.toNat dp.toNat co.toNat top mt r g b q a.toNat with
   | .error z => O = none ∧ t = z
   | .ok L => O = some (w, h, L) ∧ t = (0, 0))
def RefDec (s : ByteArray) (O : Option (Int × Int × List Value)) (t : Int × Int) : Prop :=
 (s.size < 14 ∧ O = none ∧ t = (1, (s.size : Int))) ∨ (14 ≤ s.size ∧
  ((aG s 0 ≠ 66 ∧ O = none ∧ t = (2, 0)) ∨ (aG s 0 = 66 ∧
   ((aG s 1 ≠ 77 ∧ O = none ∧ t = (2, 1)) ∨ (aG s 1 = 77 ∧
    ((∃ k a : Int, k ≠ 0 ∧ aZ s 14 = aN k a ∧ O = none ∧ t = (k, a)) ∨
     (∃ (H : Hd) (r g b q : Int) (en : Nat), aZ s 14 = rOk H r g b q 14 en ∧ RefBody s H.sz H.w H.h H.top H.dp H.mt H.co r g b q en (aC s 10 4) O t)))))))
theorem refBody_one {s : ByteArray} {sz w h : Int} {top : Bool} {dp mt co r g b q : Int} {en : Nat} {a : Int} {O O' : Option (Int × Int × List Value)} {t t' : Int × Int} (h1 : RefBody s sz w h top dp mt co r g b q en a O t) (h2 : RefBody s sz w h top dp mt co r g b q en a O' t') : O = O' ∧ t = t' := by
 rcases h1 with ⟨a1, rfl, rfl⟩ | ⟨a1, a2, rfl, rfl⟩ | ⟨a1, a2, a3⟩ <;> rcases h2 with ⟨b1, rfl, rfl⟩ | ⟨b1, b2, rfl, rfl⟩ | ⟨b1, b2, b3⟩
 · exact ⟨rfl, rfl⟩
 · omega
 · omega
 · omega
 · exact ⟨rfl, rfl⟩
 · omega
 · omega
 · omega
 · cases hr : bRef s s.size en (kdOf sz) w.toNat h.toNat dp.toNat co.toNat top mt r g b q a.toNat with
   | error z => rw [hr] at a3 b3; exact ⟨a3.1.trans b3.1.symm, a3.2.trans b3.2.symm⟩
   | ok L => rw [hr] at a3 b3; exact ⟨a3.1.trans b3.1.symm, a3.2.trans b3.2.symm⟩
theorem rBad_inj {k a k' a' : Int} (h : aN k a = aN k' a') : k = k' ∧ a = a' := by unfold aN at h; simp at h; exact h
theorem refDec_one {s : ByteArray} {O O' : Option (Int × Int × List Value)} {t t' : Int × Int} (h1 : RefDec s O t) (h2 : RefDec s O' t') : O = O' ∧ t = t' := by
 rcases h1 with ⟨a1, rfl, rfl⟩ | ⟨a1, h1⟩
 · rcases h2 with ⟨b1, rfl, rfl⟩ | ⟨b1, h2⟩
   · exact ⟨rfl, rfl⟩
   · omega
 rcases h2 with ⟨b1, rfl, rfl⟩ | ⟨b1, h2⟩
 · omega
 rcases h1 with ⟨a2, rfl, rfl⟩ | ⟨a2, h1⟩
 · rcases h2 with ⟨b2, rfl, rfl⟩ | ⟨b2, h2⟩
   · exact ⟨rfl, rfl⟩
   · exact absurd b2 a2
 rcases h2 with ⟨b2, rfl, rfl⟩ | ⟨b2, h2⟩
 · exact absurd a2 b2
 rcases h1 with ⟨a3, rfl, rfl⟩ | ⟨a3, h1⟩
 · rcases h2 with ⟨b3, rfl, rfl⟩ | ⟨b3, h2⟩
   · exact ⟨rfl, rfl⟩
   · exact absurd b3 a3
 rcases h2 with ⟨b3, rfl, rfl⟩ | ⟨b3, h2⟩
 · exact absurd a3 b3
 rcases h1 with ⟨k, a, k0, k1, rfl, rfl⟩ | ⟨H, r, g, b, q, en, k1, k2⟩ <;> rcases h2 with ⟨k', a', k0', k1', rfl, rfl⟩ | ⟨H', r', g', b', q', en', k1', k2'⟩
 · obtain ⟨rfl, rfl⟩ := rBad_inj (k1.symm.trans k1'); exact ⟨rfl, rfl⟩
 · exact (rbad_ne k0 (k1.symm.trans k1')).elim
 · exact (rbad_ne k0' (k1'.symm.trans k1)).elim
 · obtain ⟨⟨e1, e2, e3, e4, e5, e6, e7⟩, ⟨e8, e9, e10, e11⟩, e12⟩ := rok_inj (k1.symm.trans k1')
   have e12 : en = en' := by omega
   rw [e1, e2, e3, e4, e5, e6, e7, e8, e9, e10, e11, e12] at k2
   exact refBody_one k2 k2'
theorem rasLed_led {l : Led} (hl : l.ok) (hb : l.br = false) (W H : Nat) (hW : 1 ≤ W ∧ W ≤ 16384) (hH : 1 ≤ H ∧ H ≤ 16384) :
 LK l (ai l W H).1 ∧ (ai l W H).1.st = l.st ∧ (((ai l W H).2 = true ∧ (ai l W H).1.br = false ∧ (ai l W H).1.bt = l.bt + (4 * (W * H) : Nat)) ∨
  ((ai l W H).2 = false ∧ (ai l W H).1.br = true ∧ (ai l W H).1.bt = l.bt ∧ ¬ ((W : Int) ≤ l.mw ∧ (H : Int) ≤ l.mh ∧ l.bt + (4 * (W * H) : Nat) ≤ l.mb))) := by
 have ec : W * H * 4 = 4 * (W * H) := Nat.mul_comm _ _
 unfold ai
 rw [if_neg (fun h => h ⟨⟨by omega, by omega⟩, by omega, by omega⟩), Int.toNat_natCast, Int.toNat_natCast, ec]
 by_cases h1 : (l.mw < (W : Int)) ∨ (l.mh < (H : Int))
 · have e : ∃ a : Int, ∃ c : Int, l.sides W H = (l.refuse c a, false) := by
    unfold Led.sides
    rw [if_neg (by rw [hb]; decide)]
    split
    · exact ⟨_, _, rfl⟩
    split
    · exact ⟨_, _, rfl⟩
    · omega
   obtain ⟨a, c, e⟩ := e
   rw [e, if_pos rfl]
   exact ⟨⟨rfl, rfl, rfl, rfl, ⟨hl.b0, hl.b1, hl.b2, hl.s0, hl.s1, hl.s2⟩, fun h => h⟩, rfl, Or.inr ⟨rfl, rfl, rfl, by omega⟩⟩
 · have e : l.sides W H = (l, true) := by
    unfold Led.sides
    rw [if_neg (by rw [hb]; decide), if_neg (by omega), if_neg (by omega)]
   rw [e, if_neg (fun h => by cases h)]
   obtain ⟨t1, t2, t3, t4⟩ := take_lk hl hb (4 * (W * H))
   refine ⟨t1, t2, ?_⟩
   cases ht : (l.take ((4 * (W * H) : Nat) : Int)).2 with
   | true => exact Or.inl ⟨rfl, (t3 ht).2, (t3 ht).1⟩
   | false => exact Or.inr ⟨rfl, (t4 ht).2.1, (t4 ht).1, fun h => (t4 ht).2.2 h.2.2⟩
structure BodAll (l : Led) (e co W H : Nat) (ref : E22 (List Value)) (m : Led) (o : Option (List Int)) (t : Int × Int) : Prop where
 lk : LK l m
 no : m.br = true → t.1 = 4 ∧ 0 ≤ t.2 ∧ t.2 ≤ e ∧ m.bt = l.bt ∧ o = none
 yes : m.br = false → match ref with
  | .error z => o = none ∧ t = z ∧ z.1 ≠ 0
  | .ok L => t = (0, 0) ∧ ∃ d, o = some d ∧ aY d = L
 rich : (W : Int) ≤ l.mw → (H : Int) ≤ l.mh → l.bt + (4 * (W * H) : Nat) + (4 * co : Nat) ≤ l.mb → l.st + co + 1 + bCost e W H < l.mx → m.br = false
theorem bod_led {x : Sr} {l : Led} {kd W H dp co : Nat} {top : Bool} {mt r g b q at_ : Int} {y : Sr} {m : Led} {o : Option (List Int)} {t : Int × Int} (hx : x.ok) (h0 : x.b = 0) (hl : l.ok) (hb : l.br = false) (hW : 1 ≤ W ∧ W ≤ 16384) (hH : 1 ≤ H ∧ H ≤ 16384)
 (hat : at_ ≤ x.e) (hin : ((x.p + kd * co : Nat) : Int) ≤ at_) (h : BodR x l kd W H dp co top mt r g b q at_ y m o t) : BodAll l x.e co W H (bRef x.s x.e x.p kd W H dp co top mt r g b q at_.toNat) m o t := by
 obtain ⟨r1, r2, r3⟩ := rasLed_led hl hb W H hW hH
 have hpe := hx.pe
 rcases h with ⟨g1, rfl, rfl, rfl, rfl⟩ | ⟨g1, m2, d, hP, hE⟩
 · rcases r3 with ⟨c, _⟩ | ⟨_, c1, c2, c3⟩
   · rw [g1] at c; cases c
   have ef : y.ftc (ai l W H).1 = (4, (y.p : Int)) := by unfold Sr.ftc; rw [if_pos c1]
   rw [ef]
   exact ⟨r1, fun _ => ⟨rfl, by show (0 : Int) ≤ y.p; omega, by show (y.p : Int) ≤ y.e; omega, c2, rfl⟩, (fun hh => by rw [c1] at hh; cases hh), fun a1 a2 a3 a4 => (c3 ⟨a1, a2, by omega⟩).elim⟩
 rcases r3 with ⟨_, c1, c2⟩ | ⟨c, _⟩
 rotate_left
 · rw [g1] at c; cases c
 rw [Int.toNat_natCast, Int.toNat_natCast] at hE
 obtain ⟨pv, y', m', F, hT, hc⟩ := hP
 obtain ⟨t1, t2, t3, t4, t5⟩ := hT
 obtain ⟨l1, hl1⟩ : ∃ l1, (ai l W H).1 = l1 := ⟨_, rfl⟩
 rw [hl1] at r1 r2 c1 c2 t1 t3 t4 t5
 have emb := r1.mb
 have emx := r1.mx
 have back : ∀ m2 : Led, LK l1 m2 → m2.bt = l1.bt → LK l (m2.give ((4 * (W * H) : Nat) : Int)).1 ∧ (m2.give ((4 * (W * H) : Nat) : Int)).1.bt = l.bt ∧ (m2.give ((4 * (W * H) : Nat) : Int)).1.br = m2.br := fun m2 k1 k2 => by
  have hb0 := hl.b0
  obtain ⟨v1, v2, v3, v4⟩ := give_lk k1.ok (4 * (W * H)) (by omega)
  exact ⟨(r1.trans k1).trans v1, by rw [v2, k2, c2]; omega, v3⟩
 rcases t5 with ⟨rfl, u1, u2⟩ | ⟨rfl, u1, u2, u3, u4⟩
 · -- the table fails
   have hF : F.1 ≠ 0 := by
    rcases u2 with ⟨_, rfl⟩ | ⟨_, rfl, _⟩
    · show (4 : Int) ≠ 0; decide
    · show (1 : Int) ≠ 0; decide
   rcases hc with ⟨_, rfl, rfl, rfl, rfl⟩ | ⟨c, _⟩ | ⟨c, _⟩
   rotate_left
   · exact absurd c hF
   · exact absurd c hF
   rcases hE with ⟨c, _⟩ | ⟨_, rfl, rfl⟩
   · exact absurd c hF
   obtain ⟨v1, v2, v3⟩ := back m2 t1 u1
   rcases u2 with ⟨w1, rfl⟩ | ⟨w1, rfl, w2⟩
   · have hpe2 := t2.2.2.2.2.pe
     have hee := t2.2.2.1
     exact ⟨v1, fun _ => ⟨rfl, by show (0 : Int) ≤ y.p; omega, by show (y.p : Int) ≤ x.e; omega, v2, rfl⟩, (fun hh => by rw [v3, w1] at hh; cases hh), fun a1 a2 a3 a4 => by rw [v3]; exact t3 (by omega) (by omega)⟩
   · omega
 rcases hc with ⟨c, _⟩ | ⟨_, c, _⟩ | ⟨_, hto, m3, hp, rfl⟩
 · exact absurd rfl c
 · exact absurd (fun hp0 => by unfold Sr.seek; rw [u3, if_neg (by show ¬ (at_ < (x.b : Int) ∨ (x.e : Int) < at_); omega)]) c
 have hyt : y'.to at_ = { x with p := at_.toNat } := by
  unfold Sr.to Sr.seek
  rw [if_pos (by omega), u3, if_neg (by show ¬ (at_ < (x.b : Int) ∨ (x.e : Int) < at_); omega)]
 unfold PxP at hp
 rw [hyt] at hp
 obtain ⟨p1, p2, p3, p4, p5, p6, p7⟩ := hp
 have pal : LK l1 (giveP pv m3) ∧ (giveP pv m3).bt = l1.bt ∧ (giveP pv m3).br = m3.br := by
  rcases u4 with ⟨_, P, p, rfl, pm, _, pb⟩ | ⟨_, rfl, pb⟩
  · have hb1 := r1.ok.b0
    obtain ⟨v1, v2, v3, v4⟩ := give_lk p1.ok (4 * co) (by rw [p2, pb]; omega)
    show LK l1 (m3.give ((4 * p.most : Nat) : Int)).1 ∧ _ ∧ _
    rw [show (giveP (some (P, p)) m3) = (m3.give ((4 * p.most : Nat) : Int)).1 from rfl, pm]
    exact ⟨(t1.trans p1).trans v1, by rw [v2, p2, pb]; omega, v3⟩
  · exact ⟨t1.trans p1, by show m3.bt = _; rw [p2, pb], rfl⟩
 have hrich : (W : Int) ≤ l.mw → (H : Int) ≤ l.mh → l.bt + (4 * (W * H) : Nat) + (4 * co : Nat) ≤ l.mb → l.st + co + 1 + bCost x.e W H < l.mx → m3.br = false := fun a1 a2 a3 a4 => p5 (by rw [t1.mx]; omega)
 rcases hE with ⟨e0, rfl, rfl⟩ | ⟨e0, rfl, rfl⟩
 · have hb3 : m3.br = false := by
    cases hh : m3.br with
    | false => rfl
    | true => have := (p6 hh).1; omega
   refine ⟨r1.trans pal.1, (fun hh => by rw [pal.2.2, hb3] at hh; cases hh), fun _ => ?_, fun _ _ _ _ => by rw [pal.2.2]; exact hb3⟩
   have := p7 hb3
   revert this
   show (match bRef x.s x.e x.p kd W H dp co top mt r g b q at_.toNat with | .error z => t = z ∧ z.1 ≠ 0 | .ok L => t = (0, 0) ∧ aY d = L) → _
   cases bRef x.s x.e x.p kd W H dp co top mt r g b q at_.toNat with
   | error z => exact fun hh => absurd e0 (by rw [hh.1]; exact hh.2)
   | ok L => exact fun hh => ⟨hh.1, d, rfl, hh.2⟩
 · obtain ⟨v1, v2, v3⟩ := back _ pal.1 pal.2.1
   refine ⟨v1, fun hh => ?_, fun hh => ?_, fun a1 a2 a3 a4 => by rw [v3, pal.2.2]; exact hrich a1 a2 a3 a4⟩
   · rw [v3, pal.2.2] at hh
     obtain ⟨s1, s2, s3⟩ := p6 hh
     exact ⟨s1, s2, s3, v2, rfl⟩
   · rw [v3, pal.2.2] at hh
     have := p7 hh
     revert this
     show (match bRef x.s x.e x.p kd W H dp co top mt r g b q at_.toNat with | .error z => t = z ∧ z.1 ≠ 0 | .ok L => t = (0, 0) ∧ aY d = L) → _
     cases bRef x.s x.e x.p kd W H dp co top mt r g b q at_.toNat with
     | error z => exact fun hh => ⟨rfl, hh.1, hh.2⟩
     | ok L => exact fun hh => absurd (by rw [hh.1]) e0
theorem decode_any (X L : Nat) (x : Sr) (l : Led) (BD : Hd → List Int → Int → Sr → Led → Option (List Int) → Int × Int → Prop) (w : World) (hx : Pair w X x l) (hL : x.L = L) (hsz : (x.e : Int) ≤ 4611686018427387904)
 (hB : ∀ (h : Hd) (k0 k1 k2 k3 k4 k5 k6 k7 fr : Int), (aJ (x.bbeg l).1.1 (x.bbeg l).1.2 1).1 = (h.at [k0, k1, k2, k3, k4, k5, k6, k7] fr, zero3) → ∀ w0, Pair w0 X (aJ (x.bbeg l).1.1 (x.bbeg l).1.2 1).2.1 (aJ (x.bbeg l).1.1 (x.bbeg l).1.2 1).2.2 → Calls Tryz.prog 29 #[Y (some ⟨X, 0, none⟩), .agg (List.toArray [J I h.sz, J I h.w, J I h.h, .bool h.top, J I h.dp, J I h.mt, J I h.co, J I k0, J I k1, J I k2, J I k3, J I k4, J I k5, J I k6, J I k7, J I fr]), J I ((x.p : Int) + (x.bbeg l).2.1), J I 1] w0 (BodyEnd X L h.w h.h 1 (BD h [k0, k1, k2, k3, k4, k5, k6, k7] fr) w0)) :
 Calls Tryz.prog 8 #[Y (some ⟨X, 0, none⟩)] w (DecEnd X L (DecRel x l BD) w) := by
 have HL := Hi hL
 have HBO := Hi hB
 have PX := Hi ((Rdr.of hx).alloc (.cells #[J I 0, J I 0, J I 0] 31))
 have OF := Hi (aA w #[J I 0, J I 0, J I 0] 31)
 have CH := Hi ((Chg.refl (two X x) w).alloc (.cells #[J I 0, J I 0, J I 0] 31))
 obtain ⟨⟨⟨y1, m1⟩, V, bk, bp⟩, hR⟩ : ∃ r, x.bbeg l = r := ⟨_, rfl⟩
 have HBG := Hi (fun (d0 : Nat) w0 (h0 : Rdr d0 w0 X x x l) => (bbegin_any h0).mono (R' := fun e w' => e = .returned (.tuple #[J I V, .agg (fc 1 (bk, bp)).toArray]) ∧ Rdr d0 w' X x y1 m1 ∧ Chg (two X x) w0 w') fun e w' hh => by rw [hR] at hh; exact hh)
 have HRE := Hi hR
 have HVB := Hi (show 0 ≤ V ∧ V ≤ 4294967296 by
  have : V = (x.bbeg l).2.1 := by rw [hR]
  rw [this]; unfold Sr.bbeg
  split
  · dsimp only; omega
  split
  · dsimp only; omega
  split
  · dsimp only; omega
  · have := lowK4_bd x.s (x.p + 10); dsimp only; omega)
 rw [hR] at HBO
 have HPB := Hi (show (x.p : Int) ≤ x.e ∧ (x.e : Int) ≤ 4611686018427387904 by
  have := hx.src.ok.pe; omega)
 obtain ⟨⟨⟨hl, fl⟩, y2, m2⟩, hq⟩ : ∃ r, aJ y1 m1 1 = r := ⟨_, rfl⟩
 have HQ := Hi hq
 have hsh := hRead_shape y1 m1 1
 obtain ⟨q, hqp⟩ := hRead_p y1 m1 1
 rw [hq] at hsh hqp
 replace hqp : y2 = { y1 with p := q } := hqp
 have HHD := Hi (fun (d0 : Nat) w0 (h0 : Rdr d0 w0 X x y1 m1) => (hread_any X y1 m1 1 w0 h0.pr).mono (R' := fun e w' => e = .returned (.tuple #[.agg hl.toArray, .agg fl.toArray]) ∧ Rdr d0 w' X x y2 m2 ∧ Chg (two X x) w0 w') fun e w' hh => by
  unfold HReadPost at hh
  rw [hq] at hh
  obtain ⟨h1, h2, h3⟩ := hh
  have h2 : Pair w' X y2 m2 := h2
  rw [hqp] at h2 ⊢
  exact ⟨h1, h0.by q h2 h3⟩)
 have HSH := Hi hsh
 rw [hq] at HBO
 obtain ⟨d, hd⟩ : ∃ d, w.heap.size = d := ⟨_, rfl⟩
 have HDe := Hi hd
 rw [hd] at PX OF
 clear hx hL hB hsz hR hq hsh hqp
 go_enter Tryz.func8, Tryz.ntmps8
 go_upto_region 1 with (fail)
 clear hd
 generalize World.alloc _ _ = wr at PX OF CH ⊢
 go_wp2_with (((go_at_call 23; (with_reducible refine (rd_at PX.out).mono ?_); rintro e ws1 ⟨rfl, rfl⟩)))
 with_reducible refine (HBG.out _ _ PX.out).mono ?_
 rintro e w1 ⟨rfl, hp1, hc1⟩
 have OF := Hi (hc1.obj OF.out (not_twoR PX.out (by omega)))
 have PX := Hi hp1
 have CH := Hi (CH.out.trans hc1)
 clear hp1 hc1
 obtain ⟨d6, hd6⟩ : ∃ b, w1.heap.size = b := ⟨_, rfl⟩
 have lzd6 := OF.out.lt
 have O6 := Hi (aA w1 #[J I 0, J I 0, J I 0] 31)
 rw [hd6] at O6 lzd6
 have PX := Hi (PX.out.alloc (.cells #[J I 0, J I 0, J I 0] 31))
 have CH := Hi (CH.out.alloc (.cells #[J I 0, J I 0, J I 0] 31))
 have OF := Hi (OF.out.alloc (.cells #[J I 0, J I 0, J I 0] 31))
 go_upto_region 3 with (first
  | (refine so 31 3 (d6) (fc 1 (bk, bp)) O6.out ?_; intro ws hst hO; have O6 := Hi hO; have OF := Hi (hst.oth OF.out (by omega)); have PX := Hi (PX.out.into hst (by omega)); have CH := Hi (Stored.chg hst CH.out (by have := HDe.out; omega)); clear hst hO))
 clear hd6
 have c0 := (O6.out.cell 0).trans (show _ = some (J I bk) from rfl)
 by_cases hk : bk = 0
 rotate_left
 · have g1 : (bk != 0) = true := by rw [bne_iff_ne]; exact hk
   have HK := Hi hk
   clear hk
   go_upto_region 4 with (fail)
   refine wp_region_noPanic ?_
   refine wp_region_held_drew (S := fun w' => w'.rangeAt (d6) 0 (fc 1 (bk, bp))) (by kernel_rfl) (Obj1.range0 (cs := (fc 1 (bk, bp))) O6.out) (fun hHeld => ?_)
   refine zl 0 31 (d6) 0 (fc 1 (bk, bp)) rfl (fun _ h => h) Tryz.underlying31 hHeld ?_
   refine zt 1 (Y none) rfl hHeld ?_
   have PX := Hi (PX.out.drew1)
   have CH := Hi (CH.out.drew)
   have OF := Hi (OF.out.drew)
   have O6 := Hi (O6.out.drew)
   generalize World.drew _ = wk at PX CH OF O6 ⊢
   refine wpAnyH_ready (rs := [2]) (by kernel_rfl) (by simp) ?_
   refine AllReadyH.cons (o := _) rfl (fun K' hK => ?_) AllReadyH.nil
   rw [if_pos (by rfl)]
   refine wp_store_mid 31 _ _ rfl (d) 0 (List.toArray (fc 1 (bk, bp))) rfl rfl (OF.out.there 0 3 (by first | exact Nat.le_refl _ | simp)) (by kernel_rfl) (all_oneCell_toArray (List.all_eq_true.1 (by rfl))) ?_
   simp only [Act.put, zq1, zq2, zq3, zq4, zq5, zq6]
   have hst : Stored wk (d) 0 (fc 1 (bk, bp)) (wk.setCells (d) 0 (fc 1 (bk, bp))) := rfl
   have OF := Hi (hst.whole OF.out (by first | rfl | simp))
   have O6 := Hi (hst.oth O6.out (by omega))
   have PX := Hi (PX.out.into hst (by omega))
   have CH := Hi (Stored.chg hst CH.out (by have := HDe.out; omega))
   generalize World.setCells _ _ _ _ = wk2 at PX CH OF O6 ⊢
   clear hst
   refine hK _ _ (Obj1.range0 (cs := (fc 1 (bk, bp))) O6.out) (fun hH1 => ?_)
   clear hK K'
   obtain ⟨wk, rfl⟩ : ∃ z, z = wk2 := ⟨_, rfl⟩
   refine wpAnyH_done (by kernel_rfl) ?_ _
   refine NoPanic.normal ?_
   go_wp2_with fail
   refine bodyPost_ret (v := .tuple #[Y none, .agg (fc 1 (bk, bp)).toArray]) ?_ rfl ⟨y1, m1, none, (bk, bp), PX.out.pr, PX.out.eL.trans HL.out, (CH.out.mono (fun k _ hk => hk.elim Or.inl (fun h => Or.inr (h.trans HL.out)))), ?_, rfl⟩
   · exact rs_1c Tryz.results8 _ _ _ (fc 1 (bk, bp)) _ rfl OF.out.range0 Tryz.underlying31 rfl (by kernel_rfl)
   · unfold DecRel
     rw [show x.bbeg l = _ from HRE.out]
     exact Or.inl ⟨HK.out, rfl, rfl, rfl, rfl⟩
 have g1 : (bk != 0) = false := by rw [hk]; rfl
 have HK := Hi hk
 clear hk
 go_wp2_with (fail)
 with_reducible refine (HHD.out _ _ PX.out).mono ?_
 rintro e w2 ⟨rfl, hp1, hc1⟩
 clear c0 g1
 have OF := Hi (hc1.obj OF.out (not_twoR PX.out (by omega)))
 have O6 := Hi (hc1.obj O6.out (not_twoR PX.out (by omega)))
 have PX := Hi hp1
 have CH := Hi (CH.out.trans hc1)
 clear hp1 hc1
 obtain ⟨d7, hd7⟩ : ∃ b, w2.heap.size = b := ⟨_, rfl⟩
 have lzd7 := O6.out.lt
 have O7 := Hi (aA w2 #[J I 0, J I 0, J I 0, .bool false, J I 0, J I 0, J I 0, J I 0, J I 0, J I 0, J I 0, J I 0, J I 0, J I 0, J I 0, J I 0] 63)
 rw [hd7] at O7 lzd7
 have PX := Hi (PX.out.alloc (.cells #[J I 0, J I 0, J I 0, .bool false, J I 0, J I 0, J I 0, J I 0, J I 0, J I 0, J I 0, J I 0, J I 0, J I 0, J I 0, J I 0] 63))
 have CH := Hi (CH.out.alloc (.cells #[J I 0, J I 0, J I 0, .bool false, J I 0, J I 0, J I 0, J I 0, J I 0, J I 0, J I 0, J I 0, J I 0, J I 0, J I 0, J I 0] 63))
 have OF := Hi (OF.out.alloc (.cells #[J I 0, J I 0, J I 0, .bool false, J I 0, J I 0, J I 0, J I 0, J I 0, J I 0, J I 0, J I 0, J I 0, J I 0, J I 0, J I 0] 63))
 have O6 := Hi (O6.out.alloc (.cells #[J I 0, J I 0, J I 0, .bool false, J I 0, J I 0, J I 0, J I 0, J I 0, J I 0, J I 0, J I 0, J I 0, J I 0, J I 0, J I 0] 63))
 rcases HSH.out with ⟨k, p, hk, hfl⟩ | ⟨⟨sz, W, H, top, dp, mt, co, mz, fz⟩, k0, k1, k2, k3, k4, k5, k6, k7, fr, hc0, hc1, hfl⟩
 · obtain ⟨rfl, rfl⟩ := Prod.mk.inj hfl
   have HK2 := Hi hk
   have e3 : ([J I k, J I 1, J I p] : List Value) = fc 1 (k, p) := by unfold fc; rw [if_neg hk]
   have HE3 := Hi e3
   rw [e3]
   have g1 : (k != 0) = true := by rw [bne_iff_ne]; exact hk
   clear hk hfl e3
   go_upto_region 6 with (first
    | (refine so 63 16 (d7) ([J I 0, J I 0, J I 0, .bool false, J I 0, J I 0, J I 0, J I 0, J I 0, J I 0, J I 0, J I 0, J I 0, J I 0, J I 0, J I 0]) O7.out ?_; intro ws hst hO; have O7 := Hi hO; have OF := Hi (hst.oth OF.out (by omega)); have O6 := Hi (hst.oth O6.out (by omega)); have PX := Hi (PX.out.into hst (by omega)); have CH := Hi (Stored.chg hst CH.out (by have := HDe.out; omega)); clear hst hO)
    | (refine so 31 3 (d6) (fc 1 (k, p)) O6.out ?_; intro ws hst hO; have O6 := Hi hO; have OF := Hi (hst.oth OF.out (by omega)); have O7 := Hi (hst.oth O7.out (by omega)); have PX := Hi (PX.out.into hst (by omega)); have CH := Hi (Stored.chg hst CH.out (by have := HDe.out; omega)); clear hst hO))
   clear hd7
   have c0 := (O6.out.cell 0).trans (show _ = some (J I k) from rfl)
   go_upto_region 7 with (fail)
   refine wp_region_noPanic ?_
   refine wp_region_held_drew (S := fun w' => w'.rangeAt (d6) 0 (fc 1 (k, p))) (by kernel_rfl) (Obj1.range0 (cs := (fc 1 (k, p))) O6.out) (fun hHeld => ?_)
   refine zl 0 31 (d6) 0 (fc 1 (k, p)) rfl (fun _ h => h) Tryz.underlying31 hHeld ?_
   refine zt 1 (Y none) rfl hHeld ?_
   have PX := Hi (PX.out.drew1)
   have CH := Hi (CH.out.drew)
   have OF := Hi (OF.out.drew)
   have O6 := Hi (O6.out.drew)
   have O7 := Hi (O7.out.drew)
   generalize World.drew _ = wk at PX CH OF O6 O7 ⊢
   refine wpAnyH_ready (rs := [2]) (by kernel_rfl) (by simp) ?_
   refine AllReadyH.cons (o := _) rfl (fun K' hK => ?_) AllReadyH.nil
   rw [if_pos (by rfl)]
   refine wp_store_mid 31 _ _ rfl (d) 0 (List.toArray (fc 1 (k, p))) rfl rfl (OF.out.there 0 3 (by first | exact Nat.le_refl _ | simp)) (by kernel_rfl) (all_oneCell_toArray (List.all_eq_true.1 (by rfl))) ?_
   simp only [Act.put, zq1, zq2, zq3, zq4, zq5, zq6]
   have hst : Stored wk (d) 0 (fc 1 (k, p)) (wk.setCells (d) 0 (fc 1 (k, p))) := rfl
   have OF := Hi (hst.whole OF.out (by first | rfl | simp))
   have O6 := Hi (hst.oth O6.out (by omega))
   have O7 := Hi (hst.oth O7.out (by omega))
   have PX := Hi (PX.out.into hst (by omega))
   have CH := Hi (Stored.chg hst CH.out (by have := HDe.out; omega))
   generalize World.setCells _ _ _ _ = wk2 at PX CH OF O6 O7 ⊢
   clear hst
   refine hK _ _ (Obj1.range0 (cs := (fc 1 (k, p))) O6.out) (fun hH1 => ?_)
   clear hK K'
   obtain ⟨wk, rfl⟩ : ∃ z, z = wk2 := ⟨_, rfl⟩
   refine wpAnyH_done (by kernel_rfl) ?_ _
   refine NoPanic.normal ?_
   go_wp2_with fail
   refine bodyPost_ret (v := .tuple #[Y none, .agg (fc 1 (k, p)).toArray]) ?_ rfl ⟨y2, m2, none, (k, p), PX.out.pr, PX.out.eL.trans HL.out, (CH.out.mono (fun k _ hk => hk.elim Or.inl (fun h => Or.inr (h.trans HL.out)))), ?_, rfl⟩
   · exact rs_1c Tryz.results8 _ _ _ (fc 1 (k, p)) _ rfl OF.out.range0 Tryz.underlying31 rfl (by kernel_rfl)
   · unfold DecRel
     rw [show x.bbeg l = _ from HRE.out]
     refine Or.inr ⟨HK.out, Or.inl ⟨k, p, HK2.out, ?_⟩⟩
     rw [show aJ _ _ 1 = _ from HQ.out]
     exact ⟨rfl, rfl, rfl, rfl, rfl⟩
 obtain ⟨rfl, rfl⟩ := Prod.mk.inj hfl
 have HCO := Hi (show 0 ≤ co ∧ co ≤ 4294967296 from ⟨hc0, hc1⟩)
 have HBD := Hi (HBO.out ⟨sz, W, H, top, dp, mt, co, mz, fz⟩ k0 k1 k2 k3 k4 k5 k6 k7 fr rfl)
 rw [show Hd.at ⟨sz, W, H, top, dp, mt, co, mz, fz⟩ [k0, k1, k2, k3, k4, k5, k6, k7] fr = [J I sz, J I W, J I H, .bool top, J I dp, J I mt, J I co, J I k0, J I k1, J I k2, J I k3, J I k4, J I k5, J I k6, J I k7, J I fr] from rfl] at HQ ⊢
 rw [show zero3 = fc 1 (0, 0) from rfl] at HQ ⊢
 clear hfl hc0 hc1 HBO HSH HHD HBG
 go_upto_region 6 with (first
  | (refine so 63 16 (d7) ([J I sz, J I W, J I H, .bool top, J I dp, J I mt, J I co, J I k0, J I k1, J I k2, J I k3, J I k4, J I k5, J I k6, J I k7, J I fr]) O7.out ?_; intro ws hst hO; have O7 := Hi hO; have OF := Hi (hst.oth OF.out (by omega)); have O6 := Hi (hst.oth O6.out (by omega)); have PX := Hi (PX.out.into hst (by omega)); have CH := Hi (Stored.chg hst CH.out (by have := HDe.out; omega)); clear hst hO)
  | (refine so 31 3 (d6) (fc 1 (0, 0)) O6.out ?_; intro ws hst hO; have O6 := Hi hO; have OF := Hi (hst.oth OF.out (by omega)); have O7 := Hi (hst.oth O7.out (by omega)); have PX := Hi (PX.out.into hst (by omega)); have CH := Hi (Stored.chg hst CH.out (by have := HDe.out; omega)); clear hst hO))
 clear hd7
 have c0 := (O6.out.cell 0).trans (show _ = some (J I 0) from rfl)
 go_upto_region 8 with (fail)
 clear c0
 obtain ⟨E, hE⟩ : ∃ E : Int, (if sz = 12 then (3 : Int) else 4) = E := ⟨_, rfl⟩
 have hE2 : 3 ≤ E ∧ E ≤ 4 := by rw [← hE]; split <;> omega
 have HEN := Hi (fun w0 => (hentry_any sz W H top dp mt co k0 k1 k2 k3 k4 k5 k6 k7 fr w0).mono (R' := fun e w' => e = .returned (J I E) ∧ Below w0.heap.size w0 w') fun e w' hh => by rw [hE] at hh; exact hh)
 have HEE := Hi hE
 have q2 : (y2.p : Int) ≤ x.e := by
  have := PX.out.pr.src.ok.pe; have := PX.out.ee; omega
 have q1 : (x.p : Int) ≤ x.e ∧ (x.e : Int) ≤ 4611686018427387904 := HPB.out
 have hco : 0 ≤ co ∧ co ≤ 4294967296 := HCO.out
 have hec : 0 ≤ E * co ∧ E * co ≤ 17179869184 := by
  obtain ⟨h1, h2⟩ := hE2
  have : E = 3 ∨ E = 4 := by omega
  rcases this with rfl | rfl <;> omega
 have HPL := Hi (show pixLo x y2 ⟨sz, W, H, top, dp, mt, co, mz, fz⟩ = (y2.p : Int) - x.p + E * co by unfold pixLo; rw [hE])
 have v1 : IntKind.i64.wrap ((y2.p : Int) - x.p) = (y2.p : Int) - x.p := by rw [IntKind.wrap_i64]; omega
 have v2 : IntKind.i64.wrap (E * co) = E * co := i64_wrap_id _ (by omega) (by omega)
 have v3 : IntKind.i64.wrap ((y2.p : Int) - x.p + E * co) = (y2.p : Int) - x.p + E * co := by rw [IntKind.wrap_i64]; omega
 clear q1 q2 hco hec hE hE2
 by_cases hlo : V < (y2.p : Int) - x.p + E * co
 · have t1 : decide (V < (y2.p : Int) - x.p + E * co) = true := by rw [decide_eq_true_iff]; exact hlo
   have HLO := Hi hlo
   clear hlo
   refine wp_region_noPanic ?_
   refine wp_region_held_drew (S := fun w' => Below ws.heap.size ws w') (by kernel_rfl) (Below.refl _ _).drew (fun hHeld => ?_)
   refine zt 0 (J I V) rfl hHeld ?_
   refine zt 1 (Y (some ⟨X, 0, none⟩)) rfl hHeld ?_
   refine zt 3 (J I x.p) rfl hHeld ?_
   refine zl 5 63 d7 0 [J I sz, J I W, J I H, .bool top, J I dp, J I mt, J I co, J I k0, J I k1, J I k2, J I k3, J I k4, J I k5, J I k6, J I k7, J I fr] rfl (fun w hS => (O7.out.below hS O7.out.lt).range0) Tryz.underlying63 hHeld ?_
   refine zt 7 (Y (some ⟨d7, 6, none⟩)) rfl hHeld ?_
   refine zt 8 (J I co) rfl hHeld ?_ (hy := fun w hS => by (have hc : w.cell? ⟨d7, 6, none⟩ = some (J I co) := ((O7.out.below hS O7.out.lt).cell 6).trans rfl; go_simp))
   have hS := (Below.refl ws.heap.size ws).drew
   generalize World.drew ws = wk at hS ⊢
   refine wpAnyH_ready (rs := [2]) (by kernel_rfl) (by simp) ?_
   refine AllReadyH.cons (o := _) rfl (fun K' hK => ?_) AllReadyH.nil
   go_simp
   refine (rd_at (PX.out.upon hS)).mono ?_
   rintro e5 w5 ⟨rfl, rfl⟩
   go_wp2_with fail
   refine hK _ _ hS (fun hH1 => ?_)
   clear hK K'
   try simp only [Act.put, zq1, zq2, zq3, zq4, zq5, zq6]
   refine zt 4 (J I ((y2.p : Int) - x.p)) rfl hH1 ?_
   refine wpAnyH_ready (rs := [6]) (by kernel_rfl) (by simp) ?_
   refine AllReadyH.cons (o := _) rfl (fun K' hK => ?_) AllReadyH.nil
   go_simp
   refine (HEN.out _).mono ?_
   rintro e6 w6 ⟨rfl, hb⟩
   go_wp2_with fail
   have hS2 := hS.trans (hb.mono hS.size)
   refine hK _ _ hS2 (fun hH2 => ?_)
   clear hK K'
   try simp only [Act.put, zq1, zq2, zq3, zq4, zq5, zq6]
   refine zt 9 (J I (E * co)) rfl hH2 ?_
   refine zt 10 (J I ((y2.p : Int) - x.p + E * co)) rfl hH2 ?_
   refine zt 11 (.bool true) rfl hH2 ?_
   refine zt 12 (.bool true) rfl hH2 ?_
   refine wpAnyH_done (by kernel_rfl) ?_ _
   refine NoPanic.normal ?_
   have PX := Hi (PX.out.upon hS2)
   have OF := Hi (OF.out.below hS2 OF.out.lt)
   have O7 := Hi (O7.out.below hS2 O7.out.lt)
   have CH := Hi (CH.out.trans (aB hS2 _))
   clear hS hS2 hb hH1 hH2
   have w10 : IntKind.i64.wrap ((x.p : Int) + 10) = (x.p : Int) + 10 := i64_wrap_id _ (by omega) (by have := HPB.out; omega)
   go_wp2_with (first
    | ((go_at_call 27; (with_reducible refine (bwrong_any _ _).mono ?_); rintro e wb ⟨rfl, hb⟩); have PX := Hi (PX.out.upon hb); have OF := Hi (OF.out.below hb OF.out.lt); have O7 := Hi (O7.out.below hb O7.out.lt); have CH := Hi (CH.out.trans (aB hb _)); clear hb)
    | (refine so 31 3 (d) (fc 1 (2, (x.p : Int) + 10)) OF.out ?_; intro ws hst hO; have OF := Hi hO; have O7 := Hi (hst.oth O7.out (by omega)); have PX := Hi (PX.out.into hst (by omega)); have CH := Hi (Stored.chg hst CH.out (by have := HDe.out; omega)); clear hst hO))
   refine bodyPost_ret (v := .tuple #[Y none, .agg (fc 1 (2, (x.p : Int) + 10)).toArray]) ?_ rfl ⟨y2, m2, none, (2, (x.p : Int) + 10), PX.out.pr, PX.out.eL.trans HL.out, (CH.out.mono (fun k _ hk => hk.elim Or.inl (fun h => Or.inr (h.trans HL.out)))), ?_, rfl⟩
   · exact rs_1c Tryz.results8 _ _ _ (fc 1 (2, (x.p : Int) + 10)) _ rfl OF.out.range0 Tryz.underlying31 rfl (by kernel_rfl)
   · unfold DecRel
     rw [show x.bbeg l = _ from HRE.out]
     refine Or.inr ⟨HK.out, Or.inr ⟨⟨sz, W, H, top, dp, mt, co, mz, fz⟩, k0, k1, k2, k3, k4, k5, k6, k7, fr, ?_⟩⟩
     rw [show aJ _ _ 1 = _ from HQ.out]
     exact ⟨rfl, Or.inl ⟨by rw [HPL.out]; exact HLO.out, rfl, rfl, rfl, rfl⟩⟩
 have t1 : decide (V < (y2.p : Int) - x.p + E * co) = false := by rw [decide_eq_false_iff_not]; exact hlo
 have HLO := Hi (show (y2.p : Int) - x.p + E * co ≤ V by omega)
 clear hlo
 refine wp_region_noPanic ?_
 refine wp_region_held_drew (S := fun w' => Below ws.heap.size ws w') (by kernel_rfl) (Below.refl _ _).drew (fun hHeld => ?_)
 refine zt 0 (J I V) rfl hHeld ?_
 refine zt 1 (Y (some ⟨X, 0, none⟩)) rfl hHeld ?_
 refine zt 3 (J I x.p) rfl hHeld ?_
 refine zl 5 63 d7 0 [J I sz, J I W, J I H, .bool top, J I dp, J I mt, J I co, J I k0, J I k1, J I k2, J I k3, J I k4, J I k5, J I k6, J I k7, J I fr] rfl (fun w hS => (O7.out.below hS O7.out.lt).range0) Tryz.underlying63 hHeld ?_
 refine zt 7 (Y (some ⟨d7, 6, none⟩)) rfl hHeld ?_
 refine zt 8 (J I co) rfl hHeld ?_ (hy := fun w hS => by (have hc : w.cell? ⟨d7, 6, none⟩ = some (J I co) := ((O7.out.below hS O7.out.lt).cell 6).trans rfl; go_simp))
 have hS := (Below.refl ws.heap.size ws).drew
 generalize World.drew ws = wk at hS ⊢
 refine wpAnyH_ready (rs := [2]) (by kernel_rfl) (by simp) ?_
 refine AllReadyH.cons (o := _) rfl (fun K' hK => ?_) AllReadyH.nil
 go_simp
 refine (rd_at (PX.out.upon hS)).mono ?_
 rintro e5 w5 ⟨rfl, rfl⟩
 go_wp2_with fail
 refine hK _ _ hS (fun hH1 => ?_)
 clear hK K'
 try simp only [Act.put, zq1, zq2, zq3, zq4, zq5, zq6]
 refine zt 4 (J I ((y2.p : Int) - x.p)) rfl hH1 ?_
 refine wpAnyH_ready (rs := [6]) (by kernel_rfl) (by simp) ?_
 refine AllReadyH.cons (o := _) rfl (fun K' hK => ?_) AllReadyH.nil
 go_simp
 refine (HEN.out _).mono ?_
 rintro e6 w6 ⟨rfl, hb⟩
 go_wp2_with fail
 have hS2 := hS.trans (hb.mono hS.size)
 refine hK _ _ hS2 (fun hH2 => ?_)
 clear hK K'
 try simp only [Act.put, zq1, zq2, zq3, zq4, zq5, zq6]
 refine zt 9 (J I (E * co)) rfl hH2 ?_
 refine zt 10 (J I ((y2.p : Int) - x.p + E * co)) rfl hH2 ?_
 refine zt 11 (.bool false) rfl hH2 ?_
 refine zt 12 (.bool false) rfl hH2 ?_
 refine wpAnyH_done (by kernel_rfl) ?_ _
 refine NoPanic.normal ?_
 have PX := Hi (PX.out.upon hS2)
 have OF := Hi (OF.out.below hS2 OF.out.lt)
 have O7 := Hi (O7.out.below hS2 O7.out.lt)
 have CH := Hi (CH.out.trans (aB hS2 _))
 clear hS hS2 hb hH1 hH2
 clear t1 v1 v2 v3
 have HTO := Hi (fun w0 (h0 : SrcAt w0 X y2) => (to_any X y2 w0 h0).mono (R' := fun e w' => e = .returned (J I (x.e : Int)) ∧ w0 = w') fun e w' hh => by rw [PX.out.ee] at hh; exact hh)
 have v4 : IntKind.i64.wrap ((x.e : Int) - x.p) = (x.e : Int) - x.p := i64_wrap_id _ (by have := HPB.out; omega) (by have := HPB.out; omega)
 by_cases hhi : (x.e : Int) - x.p < V
 · have t2 : decide (V > (x.e : Int) - x.p) = true := by rw [decide_eq_true_iff]; exact hhi
   have HHI := Hi hhi
   clear hhi
   go_wp2_with (first
    | ((go_at_call 28; (with_reducible refine (HTO.out _ PX.out.pr.src).mono ?_); rintro e wt ⟨rfl, rfl⟩))
    | (refine so 31 3 (d) (fc 1 (1, (x.e : Int))) OF.out ?_; intro ws hst hO; have OF := Hi hO; have O7 := Hi (hst.oth O7.out (by omega)); have PX := Hi (PX.out.into hst (by omega)); have CH := Hi (Stored.chg hst CH.out (by have := HDe.out; omega)); clear hst hO))
   refine bodyPost_ret (v := .tuple #[Y none, .agg (fc 1 (1, (x.e : Int))).toArray]) ?_ rfl ⟨y2, m2, none, (1, (x.e : Int)), PX.out.pr, PX.out.eL.trans HL.out, (CH.out.mono (fun k _ hk => hk.elim Or.inl (fun h => Or.inr (h.trans HL.out)))), ?_, rfl⟩
   · exact rs_1c Tryz.results8 _ _ _ (fc 1 (1, (x.e : Int))) _ rfl OF.out.range0 Tryz.underlying31 rfl (by kernel_rfl)
   · unfold DecRel
     rw [show x.bbeg l = _ from HRE.out]
     refine Or.inr ⟨HK.out, Or.inr ⟨⟨sz, W, H, top, dp, mt, co, mz, fz⟩, k0, k1, k2, k3, k4, k5, k6, k7, fr, ?_⟩⟩
     rw [show aJ _ _ 1 = _ from HQ.out]
     exact ⟨rfl, Or.inr (Or.inl ⟨by rw [HPL.out]; exact HLO.out, HHI.out, rfl, rfl, rfl, rfl⟩)⟩
 have t2 : decide (V > (x.e : Int) - x.p) = false := by rw [decide_eq_false_iff_not]; exact hhi
 have HHI := Hi (show V ≤ (x.e : Int) - x.p by omega)
 clear hhi
 have v5 : IntKind.i64.wrap ((x.p : Int) + V) = (x.p : Int) + V := i64_wrap_id _ (by have := HPB.out; have := HVB.out; omega) (by have := HPB.out; have := HVB.out; omega)
 go_wp2_with (first
  | ((go_at_call 28; (with_reducible refine (HTO.out _ PX.out.pr.src).mono ?_); rintro e wt ⟨rfl, rfl⟩))
  | (refine aL (by kernel_rfl) 63 16 _ rfl (d7) ([J I sz, J I W, J I H, .bool top, J I dp, J I mt, J I co, J I k0, J I k1, J I k2, J I k3, J I k4, J I k5, J I k6, J I k7, J I fr]) rfl rfl O7.out Tryz.underlying63 rfl (by kernel_rfl) ?_; intro _))
 have lo := OF.out.lt
 with_reducible refine (HBD.out _ PX.out.pr).mono ?_
 rintro e w7 ⟨y3, m3, oo, t, hp3, hy3, hch, hrel, hres⟩
 have OF := Hi (hch.obj OF.out (fun h => by have := PX.out.lX; have := PX.out.lL; have := HL.out; omega))
 have CH := Hi ((CH.out.mono (S' := fun k => k = X ∨ k = L) (fun k _ hk => hk.elim Or.inl (fun h => Or.inr (h.trans HL.out)))).trans hch)
 have LB := Hi (show X < d ∧ L < d from ⟨PX.out.lX, by have := PX.out.lL; rw [HL.out] at this; exact this⟩)
 have PX := Hi hp3
 have HY := Hi hy3
 have HREL := Hi hrel
 clear hp3 hy3 hch hrel
 cases oo with
 | none =>
   obtain rfl := hres
   go_wp2_with ((refine so 31 3 d (fc 1 t) OF.out ?_; intro ws hst hO; have OF := Hi hO; have PX := Hi (PX.out.into hst (by have := LB.out; omega) (by have := LB.out; have := HY.out; omega)); have CH := Hi (Stored.chgS hst CH.out (Or.inr (by have := HDe.out; omega))); clear hst hO))
   refine bodyPost_ret (v := .tuple #[Y none, .agg (fc 1 t).toArray]) ?_ rfl ⟨y3, m3, none, t, PX.out, HY.out, CH.out, ?_, rfl⟩
   · exact rs_1c Tryz.results8 _ _ _ (fc 1 t) _ rfl OF.out.range0 Tryz.underlying31 rfl (by kernel_rfl)
   · unfold DecRel
     rw [show x.bbeg l = _ from HRE.out]
     refine Or.inr ⟨HK.out, Or.inr ⟨⟨sz, W, H, top, dp, mt, co, mz, fz⟩, k0, k1, k2, k3, k4, k5, k6, k7, fr, ?_⟩⟩
     rw [show aJ _ _ 1 = _ from HQ.out]
     exact ⟨rfl, Or.inr (Or.inr ⟨by rw [HPL.out]; exact HLO.out, HHI.out, none, HREL.out, rfl⟩)⟩
 | some dd =>
   obtain ⟨R, B, g, rfl, hra, hr1, hr2, hr3⟩ := hres
   have RA := Hi hra
   have HSZ := Hi (show (d < R ∧ d < B ∧ d < g) ∧ (w.heap.size ≤ R ∧ w.heap.size ≤ B ∧ w.heap.size ≤ g) from by have := HDe.out; omega)
   clear hra hr1 hr2 hr3
   go_wp2_with ((refine so 31 3 d (fc 1 (0, 0)) OF.out ?_; intro ws hst hO; have OF := Hi hO; have hS := Stored.chgS (S := fun k => k = d) hst (Chg.refl _ _) (Or.inl rfl); have RA := Hi (RA.out.chg hS (by have := HSZ.out; omega) (by have := HSZ.out; show ¬ B = _; omega) (by have := HSZ.out; show ¬ g = _; omega)); clear hS; have PX := Hi (PX.out.into hst (by have := LB.out; omega) (by have := LB.out; have := HY.out; omega)); have CH := Hi (Stored.chgS hst CH.out (Or.inr (by have := HDe.out; omega))); clear hst hO))
   refine bodyPost_ret (v := .tuple #[Y (some ⟨R, 0, none⟩), .agg (fc 1 (0, 0)).toArray]) ?_ rfl ⟨y3, m3, some (W, H, dd), t, PX.out, HY.out, CH.out, ?_, R, B, g, rfl, RA.out, HSZ.out.2⟩
   · exact rs_1c Tryz.results8 _ _ _ (fc 1 (0, 0)) _ rfl OF.out.range0 Tryz.underlying31 rfl (by kernel_rfl)
   · unfold DecRel
     rw [show x.bbeg l = _ from HRE.out]
     refine Or.inr ⟨HK.out, Or.inr ⟨⟨sz, W, H, top, dp, mt, co, mz, fz⟩, k0, k1, k2, k3, k4, k5, k6, k7, fr, ?_⟩⟩
     rw [show aJ _ _ 1 = _ from HQ.out]
     exact ⟨rfl, Or.inr (Or.inr ⟨by rw [HPL.out]; exact HLO.out, HHI.out, some dd, HREL.out, rfl⟩)⟩
end Go.Proofs.YtfchnibjjokmbaaGreat

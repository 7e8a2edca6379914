/- Heads that are read by the program and by the document are the same. Plain. -/
import Derived.Test.YtlfbaggcfaenlaaGreatK22
import Derived.Test.YtlfbaggcfaenlaaGreatK32
import Derived.Test.YtlfbaggcfaenlaaGreatK9
import Derived.Test.YtlfbaggcfaenlaaGreatK0
namespace Go.Proofs.YtlfbaggcfaenlaaGreat
open Go.RowKit
set_option linter.unusedVariables false
set_option linter.unusedSimpArgs false
theorem find_word (m width : Int) (he : (findI m width).2.2 = 0) : wordI (findI m width).1 (findI m width).2.1 = m := by
  by_cases hm : m = 0
  · subst hm
    have e : findI 0 width = (0, 0, 0) := by
      unfold findI at he ⊢
      split at he
      · simp at he
      · rename_i h1
        rw [if_neg h1]
        split at he
        · simp at he
        · rename_i h2
          rw [if_neg h2, if_pos rfl]
    rw [e]; rfl
  · obtain ⟨s, b, h1, h2, h3, h4⟩ := find_good m width he hm
    rw [h1, h2]; exact shape_word h3 h4
theorem firstW_no {L : List Fnd} (h : (firstW L).2 = false) : ∀ r ∈ L, r.1 = false := by
  induction L with
  | nil => intro r hr; cases hr
  | cons a t ih =>
    unfold firstW at h
    intro r hr
    by_cases ha : a.1 = true
    · rw [if_pos ha] at h; cases h
    · rw [if_neg ha] at h
      rcases List.mem_cons.1 hr with rfl | hr
      · simpa using ha
      · exact ih h r hr
theorem firstW_in {L : List Fnd} (h : (firstW L).2 = true) : (firstW L).1 ∈ L := by
  induction L with
  | nil => cases h
  | cons a t ih =>
    unfold firstW at h ⊢
    by_cases ha : a.1 = true
    · rw [if_pos ha]; exact List.mem_cons_self
    · rw [if_neg ha] at h ⊢; exact List.mem_cons_of_mem _ (ih h)
theorem fdOf_kind (b : ByteArray) (h : (firstW (fdOf b)).2 = true) : (firstW (fdOf b)).1.2.1 ≠ 0 := by
  have hin := firstW_in h
  have key : ∀ r ∈ fdOf b, r.2.1 ≠ 0 := by
    unfold fdOf; split
    · unfold smallF sidesF; intro r hr; simp at hr; rcases hr with rfl | rfl | rfl | rfl | rfl | rfl <;> simp
    · unfold greatF sidesF; intro r hr; simp at hr; rcases hr with rfl | rfl | rfl | rfl | rfl | rfl | rfl | rfl | rfl | rfl <;> simp
  exact key _ hin
structure Hd.fine (a : Hd) : Prop where
  hd : headsB a.sz = true
  w1 : 1 ≤ a.w
  w2 : a.w ≤ 16384
  dp : a.dp = 1 ∨ a.dp = 4 ∨ a.dp = 8 ∨ a.dp = 16 ∨ a.dp = 24 ∨ a.dp = 32
theorem dpB_in {n : Int} {more : Bool} (h : dpB n more = true) : n = 1 ∨ n = 4 ∨ n = 8 ∨ n = 16 ∨ n = 24 ∨ n = 32 := by
  unfold dpB at h; simp at h; omega
theorem dpB_no {n : Int} (h : dpB n false = true) : n = 1 ∨ n = 4 ∨ n = 8 ∨ n = 24 := by
  unfold dpB at h; simp at h; omega
theorem hd_fine (b : ByteArray) (hd : headsB b.size = true) (h : (firstW (fdOf b)).2 = false) : (hdOf b).fine ∧ (b.size = 12 → (hdOf b).dp = 1 ∨ (hdOf b).dp = 4 ∨ (hdOf b).dp = 8 ∨ (hdOf b).dp = 24) := by
  have hn := firstW_no h
  by_cases h12 : b.size = 12
  · have e1 : fdOf b = smallF b := by unfold fdOf; rw [if_pos h12]
    have e2 : hdOf b = smallH b := by unfold hdOf; rw [if_pos h12]
    rw [e1] at hn
    rw [e2]
    unfold smallF sidesF at hn
    have a1 := hn _ (by simp only [List.cons_append, List.nil_append]; exact List.mem_cons_self)
    have a2 := hn _ (by simp only [List.cons_append, List.nil_append]; exact List.mem_cons_of_mem _ List.mem_cons_self)
    have a6 := hn (!dpB (lowK b 10 2) false, 3, 10) (by simp)
    have d := dpB_no (show dpB (lowK b 10 2) false = true by simpa using a6)
    simp only [decide_eq_false_iff_not] at a1 a2
    exact ⟨⟨rfl, by show 1 ≤ lowK b 4 2; omega, by show lowK b 4 2 ≤ 16384; omega, by show lowK b 10 2 = 1 ∨ _; unfold smallH; simp only; omega⟩, fun _ => d⟩
  · have e1 : fdOf b = greatF b := by unfold fdOf; rw [if_neg h12]
    have e2 : hdOf b = greatH b := by unfold hdOf; rw [if_neg h12]
    rw [e1] at hn
    rw [e2]
    unfold greatF sidesF at hn
    have a1 := hn _ (by simp only [List.cons_append, List.nil_append]; exact List.mem_cons_self)
    have a2 := hn _ (by simp only [List.cons_append, List.nil_append]; exact List.mem_cons_of_mem _ List.mem_cons_self)
    have a6 := hn (!dpB (lowK b 14 2) true, 3, 14) (by simp)
    have d := dpB_in (show dpB (lowK b 14 2) true = true by simpa using a6)
    simp only [decide_eq_false_iff_not] at a1 a2
    exact ⟨⟨hd, by show 1 ≤ signed (lowK b 4 4); omega, by show signed (lowK b 4 4) ≤ 16384; omega, d⟩, fun h => absurd h h12⟩
def mWords (m : List Int) (r g b a : Int) : Prop := ∃ k0 k1 k2 k3 k4 k5 k6 k7, m = [k0, k1, k2, k3, k4, k5, k6, k7] ∧ wordI k0 k1 = r ∧ wordI k2 k3 = g ∧ wordI k4 k5 = b ∧ wordI k6 k7 = a
theorem mk8_words (l : Nat → Int) (dp : Int) (h : (scan4 (pstep l dp)).2 = 0) : mWords (mk8 l dp) (l 0) (l 1) (l 2) (l 3) := by
  obtain ⟨h0, h1, h2, h3⟩ := scan_ok _ h
  unfold mk8
  rw [if_pos h]
  exact ⟨_, _, _, _, _, _, _, _, rfl, find_word _ _ (pstep_ok _ _ _ h0), find_word _ _ (pstep_ok _ _ _ h1), find_word _ _ (pstep_ok _ _ _ h2), find_word _ _ (pstep_ok _ _ _ h3)⟩
theorem hEnd_same (s : ByteArray) (p n e : Nat) (h : Hd) (f : Int) (hp : p + e ≤ s.size) (h52 : 52 ≤ e) (h56 : 56 ≤ h.sz → 56 ≤ e) :
    hEnd (s.extract p (p + e)) h f p = if (scan4 (rstep (mkR s p h.sz) h.dp)).2 != 0 then (zero16, [.int .i64 2, .int .i64 f, .int .i64 ((p : Int) + 40 + 4 * (scan4 (rstep (mkR s p h.sz) h.dp)).1)]) else (h.at (mk8 (mkR s p h.sz) h.dp) p, zero3) := by
  have e1 : mkL (s.extract p (p + e)) h.sz = mkR s p h.sz := by
    funext k
    unfold mkL mkR
    rw [lowK_ext s p (p + e) 40 4 (by omega) hp, lowK_ext s p (p + e) 44 4 (by omega) hp, lowK_ext s p (p + e) 48 4 (by omega) hp]
    by_cases h3 : 56 ≤ h.sz
    · rw [if_pos h3, if_pos h3, lowK_ext s p (p + e) 52 4 (by have := h56 h3; omega) hp]
    · rw [if_neg h3, if_neg h3]
  unfold hEnd
  rw [e1, scan_same, Int.add_assoc]
theorem work_n (l : Led) (hb : l.br = false) (hw : l.st + 1 ≤ l.mx) : l.work 1 = ({ l with st := l.st + 1 }, true) := by
  unfold Led.work
  rw [if_neg (by rw [hb]; decide), if_neg (by omega)]
theorem next_w (x : Sr) (l : Led) (n : Nat) (hb : l.br = false) (hw : l.st + 1 ≤ l.mx) (he : x.e = x.s.size) (hpe : x.p ≤ x.e) : x.next l n = if x.s.size < x.p + n then ((x, { l with st := l.st + 1 }), (ByteArray.empty, false)) else (({ x with p := x.p + n }, { l with st := l.st + 1 }), (x.s.extract x.p (x.p + n), true)) := by
  unfold Sr.next
  rw [work_n l hb hw]
  by_cases h : x.s.size < x.p + n
  · rw [if_pos h, if_neg (by omega)]
  · rw [if_neg h, if_pos ⟨rfl, by omega, by omega⟩, Int.toNat_natCast]
theorem dib_eq (x : Sr) (l : Led) (f : Int) (hx : x.ok) (he : x.e = x.s.size) (hs : x.s.size ≤ 100000) (hb : l.br = false) (hw : l.st + 3 ≤ l.mx) :
    (∃ k a : Int, k ≠ 0 ∧ rRead20 x.s x.p = rBad20 k a ∧ (hRead x l f).1 = (zero16, [.int .i64 k, .int .i64 f, .int .i64 a])) ∨
    (∃ (H : Hd) (m : List Int) (r g b q en : Int), H.fine ∧ rRead20 x.s x.p = rOk H r g b q x.p en ∧ (hRead x l f).1 = (H.at m x.p, zero3) ∧ mWords m r g b q ∧ ((hRead x l f).2.1.p : Int) = en ∧ H.sz = lowK x.s x.p 4 ∧ en = (x.p : Int) + (if H.sz = 40 ∧ H.mt = 3 then 52 else H.sz) ∧ (∃ n : Nat, lowK x.s x.p 4 = n ∧ H = hdOf (x.s.extract x.p (x.p + n))) ∧ m = (if H.mt = 3 then mk8 (mkR x.s x.p H.sz) H.dp else comM H.dp)) := by
  have hpe := hx.pe
  have n4 := next_w x l 4 hb (by omega) he hpe
  have n4 : x.next l 4 = _ := n4
  have fL : ∀ (y : Sr) (m : Led), m.br = false → faultL y m f = [.int .i64 1, .int .i64 f, .int .i64 y.e] := by
    intro y m hm; unfold faultL; rw [if_neg (by rw [hm]; decide)]
  unfold rRead20
  by_cases h4 : x.s.size < x.p + 4
  · left
    rw [if_pos h4] at n4 ⊢
    refine ⟨1, x.s.size, by decide, rfl, ?_⟩
    unfold hRead tkOk tkRes
    rw [n4]
    simp only [Bool.false_and, if_true]
    rw [fL x { l with st := l.st + 1 } hb, he]
  rw [if_neg h4] at n4 ⊢
  have lo4 : lowK (x.s.extract x.p (x.p + 4)) 0 4 = lowK x.s x.p 4 := lowK_ext x.s x.p (x.p + 4) 0 4 (by omega) (by omega)
  obtain ⟨n, hn⟩ : ∃ n : Nat, lowK x.s x.p 4 = n := ⟨_, (Int.toNat_of_nonneg (lowK_bd x.s x.p 4).1).symm⟩
  rw [hn] at lo4 ⊢
  rw [Int.toNat_natCast]
  have hk : knownH n = (headsB n || ((n : Int) == 16 || (n : Int) == 64)) := rfl
  by_cases hh : headsB n = false
  · left
    have hok : tkOk x l = false := by unfold tkOk; rw [n4]; simp only [lo4, hh]; rfl
    by_cases h16 : ((n : Int) == 16 || (n : Int) == 64) = true
    · rw [if_pos h16]
      refine ⟨3, x.p, by decide, rfl, ?_⟩
      unfold hRead
      rw [if_pos hok]
      unfold tkRes
      rw [n4]
      simp only [lo4, hh, hk, h16, Bool.false_or, if_true, if_false, Bool.true_eq_false, Bool.false_eq_true]
    · rw [if_neg h16, if_pos hh]
      refine ⟨2, x.p, by decide, rfl, ?_⟩
      unfold hRead
      rw [if_pos hok]
      unfold tkRes
      rw [n4]
      simp only [lo4, hh, hk, h16, Bool.false_or, if_true, if_false, Bool.true_eq_false, Bool.false_eq_true]
  have hh : headsB n = true := by simpa using hh
  have hnc := heads_le hh
  have h16 : ¬ ((n : Int) == 16 || (n : Int) == 64) = true := by
    unfold headsB at hh; simp at hh ⊢; omega
  rw [if_neg h16, if_neg (by rw [hh]; decide)]
  have n5 := next_w { x with p := x.p + 4 } { l with st := l.st + 1 } (n - 4) hb (by simp only; omega) he (by simp only; omega)
  rw [show ((n - 4 : Nat) : Int) = (n : Int) - 4 by omega] at n5
  simp only [show x.p + 4 + (n - 4) = x.p + n by omega] at n5
  by_cases h5 : x.s.size < x.p + n
  · left
    rw [if_pos (by omega)]
    rw [if_pos h5] at n5
    refine ⟨1, x.s.size, by decide, rfl, ?_⟩
    have hok : tkOk x l = false := by unfold tkOk; rw [n4]; simp only [lo4, n5, Bool.and_false]
    unfold hRead
    rw [if_pos hok]
    unfold tkRes
    rw [n4]
    simp only [lo4, hh, n5, if_true, if_false, Bool.true_eq_false]
    rw [fL { x with p := x.p + 4 } { l with st := l.st + 1 + 1 } hb]
    simp only [he]
  rw [if_neg (by omega)]
  rw [if_neg h5] at n5
  have hok : tkOk x l = true := by unfold tkOk; rw [n4]; simp only [lo4, hh, n5]; rfl
  obtain ⟨n', ⟨-, -, -, hbt, hst, hlo, -, -⟩⟩ := tk_good f hx hok
  obtain rfl : n' = n := by omega
  have hrun : hRead x l f = hRun x l f (x.s.extract x.p (x.p + n')) { x with p := x.p + n' } { l with st := l.st + 2 } (hdOf (x.s.extract x.p (x.p + n'))) (firstW (fdOf (x.s.extract x.p (x.p + n')))) := by
    unfold hRead
    rw [if_neg (by rw [hok]; decide), hbt, hst, work_n l hb (by omega), work_n { l with st := l.st + 1 } hb (by simp only; omega)]
    simp only [Int.add_assoc]
    rfl
  obtain ⟨b, hbb⟩ : ∃ b, x.s.extract x.p (x.p + n') = b := ⟨_, rfl⟩
  have hbn : b.size = n' := by rw [← hbb, ByteArray.size_extract]; omega
  rw [hbb] at hrun ⊢
  have hbd : headsB b.size = true := by rw [hbn]; exact hh
  by_cases hF : (firstW (fdOf b)).2 = true
  · left
    refine ⟨(firstW (fdOf b)).1.2.1, (x.p : Int) + (firstW (fdOf b)).1.2.2, fdOf_kind b hF, ?_, ?_⟩
    · by_cases h12 : n' = 12
      · have e1 : fdOf b = smallF b := by unfold fdOf; rw [if_pos (by omega)]
        rw [e1] at hF ⊢
        rw [if_pos (by rw [h12]; rfl)]
        unfold rShort
        rw [if_pos hF]
      · have e1 : fdOf b = greatF b := by unfold fdOf; rw [if_neg (by omega)]
        rw [e1] at hF ⊢
        rw [if_neg (by simp; omega), if_pos hF]
    · rw [hrun]; unfold hRun; rw [if_pos hF]
  have hF' : (firstW (fdOf b)).2 = false := by simpa using hF
  obtain ⟨fine, fine12⟩ := hd_fine b hbd hF'
  have hrun2 := hrun
  unfold hRun at hrun2
  rw [if_neg hF] at hrun2
  clear hrun
  by_cases h12 : n' = 12
  · right
    have e1 : fdOf b = smallF b := by unfold fdOf; rw [if_pos (by omega)]
    have e2 : hdOf b = smallH b := by unfold hdOf; rw [if_pos (by omega)]
    have e3 : comM (smallH b).dp = z8 := by
      have := fine12 (by omega); rw [e2] at this
      unfold comM; rw [if_neg (by omega), if_neg (by omega)]
    rw [e1] at hF
    rw [e2] at hrun2 fine
    rw [if_neg (show ¬ ((smallH b).mt == 3) = true from by exact Bool.false_ne_true), e3] at hrun2
    refine ⟨smallH b, z8, 0, 0, 0, 0, (x.p : Int) + 12, fine, ?_, by rw [hrun2], ⟨0, 0, 0, 0, 0, 0, 0, 0, rfl, rfl, rfl, rfl, rfl⟩, by rw [hrun2]; simp only; omega, by rw [h12]; rfl, by rw [if_neg (by rintro ⟨a1, -⟩; exact absurd (show (12 : Int) = 40 from a1) (by decide))]; rfl, ⟨n', rfl, by rw [hbb, e2]⟩, by rw [if_neg (show ¬ (smallH b).mt = 3 from by show ¬ (0 : Int) = 3; decide), e3]⟩
    rw [if_pos (by rw [h12]; rfl)]
    unfold rShort
    rw [if_neg hF]
  have e1 : fdOf b = greatF b := by unfold fdOf; rw [if_neg (by omega)]
  have e2 : hdOf b = greatH b := by unfold hdOf; rw [if_neg (by omega)]
  rw [if_neg (by simp; omega), if_neg (by rw [← e1]; exact hF)]
  rw [e2] at hrun2 fine
  have hsz : (greatH b).sz = n' := by rw [← hbn]; rfl
  have hn40 : n' = 40 ∨ n' = 52 ∨ n' = 56 ∨ n' = 108 ∨ n' = 124 := by unfold headsB at hh; simp at hh; omega
  obtain ⟨h, hhd⟩ : ∃ h, greatH b = h := ⟨_, rfl⟩
  rw [hhd] at hrun2 fine hsz ⊢
  have hH : h = hdOf (x.s.extract x.p (x.p + n')) := by rw [hbb, e2, hhd]
  clear e1 e2 hF hF' fine12 hhd
  unfold rMk
  by_cases h3 : (h.mt == 3) = true
  · rw [if_pos h3] at hrun2 ⊢
    have key : ∀ e : Nat, x.p + e ≤ x.s.size → 52 ≤ e → (56 ≤ h.sz → 56 ≤ e) → ∀ (y : Sr) (m : Led), hRead x l f = (hEnd (x.s.extract x.p (x.p + e)) h f x.p, (y, m)) → ∀ en : Int, (y.p : Int) = en → en = (x.p : Int) + (if h.sz = 40 ∧ h.mt = 3 then 52 else h.sz) →
        (∃ k a : Int, k ≠ 0 ∧ (if ((scan4 (rstep (mkR x.s x.p h.sz) h.dp)).2 != 0) = true then rBad20 2 ((x.p : Int) + 40 + 4 * (scan4 (rstep (mkR x.s x.p h.sz) h.dp)).1) else rOk h (mkR x.s x.p h.sz 0) (mkR x.s x.p h.sz 1) (mkR x.s x.p h.sz 2) (mkR x.s x.p h.sz 3) x.p en) = rBad20 k a ∧ (hRead x l f).1 = (zero16, [.int .i64 k, .int .i64 f, .int .i64 a])) ∨
        (∃ (H : Hd) (m : List Int) (r g b q en' : Int), H.fine ∧ (if ((scan4 (rstep (mkR x.s x.p h.sz) h.dp)).2 != 0) = true then rBad20 2 ((x.p : Int) + 40 + 4 * (scan4 (rstep (mkR x.s x.p h.sz) h.dp)).1) else rOk h (mkR x.s x.p h.sz 0) (mkR x.s x.p h.sz 1) (mkR x.s x.p h.sz 2) (mkR x.s x.p h.sz 3) x.p en) = rOk H r g b q x.p en' ∧ (hRead x l f).1 = (H.at m x.p, zero3) ∧ mWords m r g b q ∧ ((hRead x l f).2.1.p : Int) = en' ∧ H.sz = n' ∧ en' = (x.p : Int) + (if H.sz = 40 ∧ H.mt = 3 then 52 else H.sz) ∧ (∃ n : Nat, (n' : Int) = n ∧ H = hdOf (x.s.extract x.p (x.p + n))) ∧ m = (if H.mt = 3 then mk8 (mkR x.s x.p H.sz) H.dp else comM H.dp)) := by
      intro e a1 a2 a3 y m hr en hy hen
      rw [hEnd_same x.s x.p n' e h f a1 a2 a3] at hr
      by_cases hsc : ((scan4 (rstep (mkR x.s x.p h.sz) h.dp)).2 != 0) = true
      · left
        rw [if_pos hsc] at hr ⊢
        exact ⟨2, _, by decide, rfl, by rw [hr]⟩
      · right
        rw [if_neg hsc] at hr ⊢
        refine ⟨h, _, _, _, _, _, en, fine, rfl, by rw [hr], ?_, by rw [hr]; exact hy, hsz, hen, ⟨n', rfl, hH⟩, by rw [if_pos (eq_of_beq h3)]⟩
        refine mk8_words _ _ ?_
        rw [scan_same]; simpa using hsc
    by_cases h40 : (h.sz == 40) = true
    · rw [if_pos h40] at hrun2 ⊢
      have h40' : n' = 40 := by have := eq_of_beq h40; omega
      have n6 := next_w { x with p := x.p + n' } { l with st := l.st + 2 } 12 hb (by simp only; omega) he (by simp only; omega)
      have n6 : Sr.next { x with p := x.p + n' } { l with st := l.st + 2 } 12 = _ := n6
      by_cases h6 : x.s.size < x.p + 52
      · left
        rw [if_pos (by simp only; omega)] at n6
        rw [n6, if_neg (by exact Bool.false_ne_true)] at hrun2
        rw [if_pos (by omega)]
        exact ⟨1, x.s.size, by decide, rfl, by rw [hrun2]; simp only; rw [fL { x with p := x.p + n' } { l with st := l.st + 2 + 1 } hb]; simp only [he]⟩
      · rw [if_neg (by simp only; omega)] at n6
        rw [n6, if_pos rfl] at hrun2
        rw [if_neg (by omega)]
        have hcat : b ++ x.s.extract (x.p + n') (x.p + n' + 12) = x.s.extract x.p (x.p + 52) := by
          rw [← hbb, ext_app x.s x.p (x.p + n') (x.p + n' + 12) (by omega) (by omega), show x.p + n' + 12 = x.p + 52 by omega]
        simp only [hcat] at hrun2
        exact key 52 (by omega) (by omega) (by omega) _ _ hrun2 _ (by simp only; omega) (by rw [if_pos ⟨eq_of_beq h40, eq_of_beq h3⟩])
    · rw [if_neg h40] at hrun2 ⊢
      have h40' : n' ≠ 40 := by rintro rfl; rw [hsz] at h40; exact h40 rfl
      rw [if_neg (by omega)]
      rw [← hbb] at hrun2
      exact key n' (by omega) (by omega) (by omega) _ _ hrun2 _ (by simp only; omega) (by rw [if_neg (by rintro ⟨a1, -⟩; omega), hsz])
  · right
    rw [if_neg h3] at hrun2 ⊢
    by_cases h16 : h.dp = 16
    · rw [if_pos (by rw [h16]; rfl)]
      refine ⟨h, _, _, _, _, _, _, fine, rfl, by rw [hrun2], ?_, by rw [hrun2]; simp only; omega, hsz, by rw [if_neg (by rintro ⟨-, a2⟩; exact h3 (by rw [a2]; rfl)), hsz], ⟨n', rfl, hH⟩, by rw [if_neg (fun e => h3 (by rw [e]; rfl))]⟩
      unfold comM; rw [if_pos h16]
      exact ⟨_, _, _, _, _, _, _, _, rfl, by decide, by decide, by decide, by decide⟩
    by_cases h32 : h.dp = 32
    · rw [if_neg (by simp [h16]), if_pos (by rw [h32]; rfl)]
      refine ⟨h, _, _, _, _, _, _, fine, rfl, by rw [hrun2], ?_, by rw [hrun2]; simp only; omega, hsz, by rw [if_neg (by rintro ⟨-, a2⟩; exact h3 (by rw [a2]; rfl)), hsz], ⟨n', rfl, hH⟩, by rw [if_neg (fun e => h3 (by rw [e]; rfl))]⟩
      unfold comM; rw [if_neg h16, if_pos h32]
      exact ⟨_, _, _, _, _, _, _, _, rfl, by decide, by decide, by decide, by decide⟩
    · rw [if_neg (by simp [h16]), if_neg (by simp [h32])]
      refine ⟨h, _, _, _, _, _, _, fine, rfl, by rw [hrun2], ?_, by rw [hrun2]; simp only; omega, hsz, by rw [if_neg (by rintro ⟨-, a2⟩; exact h3 (by rw [a2]; rfl)), hsz], ⟨n', rfl, hH⟩, by rw [if_neg (fun e => h3 (by rw [e]; rfl))]⟩
      unfold comM; rw [if_neg h16, if_neg h32]
      exact ⟨_, _, _, _, _, _, _, _, rfl, rfl, rfl, rfl, rfl⟩
end Go.Proofs.YtlfbaggcfaenlaaGreat

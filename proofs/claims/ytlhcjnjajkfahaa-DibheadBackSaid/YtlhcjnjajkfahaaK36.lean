/- A head of 40 bytes that is read has bytes: they are read as it. Plain. -/
import Derived.Test.YtlhcjnjajkfahaaK31
namespace Go.Proofs.Ytlhcjnjajkfahaa
open Go.RowKit
set_option linter.unusedVariables false
set_option linter.unusedSimpArgs false
theorem rBad_ne {k a : Int} {H : Hd} {r g b q fr en : Int} (h : rBad20 k a = rOk H r g b q fr en) : k = 0 := by
  have h1 := congrArg (fun l => l[13]?) h
  simpa [rBad20, rOk] using h1
theorem firstW_all {L : List Fnd} (h : ∀ r ∈ L, r.1 = false) : (firstW L).2 = false := by
  induction L with
  | nil => rfl
  | cons a t ih =>
    unfold firstW
    rw [if_neg (by rw [h a List.mem_cons_self]; decide)]
    exact ih (fun r hr => h r (List.mem_cons_of_mem _ hr))
theorem rread_40 (s : ByteArray) (hl : lowK s 0 4 = 40) (hs : 40 ≤ s.size) (hF : (firstW (greatF (s.extract 0 40))).2 = false) : rRead20 s 0 = rMk s 0 (greatH (s.extract 0 40)) 40 := by
  unfold rRead20
  rw [if_neg (by omega), hl, if_neg (by decide), if_neg (by decide), if_neg (by simp; omega), if_neg (by decide)]
  rw [show (0 + (40 : Int).toNat) = 40 from rfl, if_neg (by rw [hF]; decide)]
  rfl
theorem rread_40' (s : ByteArray) (hl : lowK s 0 4 = 40) {H : Hd} {r g b q en : Int} (h : rRead20 s 0 = rOk H r g b q 0 en) : 40 ≤ s.size ∧ (firstW (greatF (s.extract 0 40))).2 = false := by
  unfold rRead20 at h
  by_cases h4 : s.size < 0 + 4
  · rw [if_pos h4] at h; exact absurd (rBad_ne h) (by decide)
  rw [if_neg h4, hl, if_neg (by decide), if_neg (by decide)] at h
  by_cases h5 : (s.size : Int) < ((0 : Nat) : Int) + 40
  · rw [if_pos h5] at h; exact absurd (rBad_ne h) (by decide)
  rw [if_neg h5, if_neg (by decide)] at h
  refine ⟨by omega, ?_⟩
  cases hF : (firstW (greatF (s.extract 0 40))).2 with
  | false => rfl
  | true =>
    rw [show (0 + (40 : Int).toNat) = 40 from rfl] at h
    rw [if_pos hF] at h
    have e : fdOf (s.extract 0 40) = greatF (s.extract 0 40) := by unfold fdOf; rw [if_neg (by rw [ByteArray.size_extract]; omega)]
    have hk := fdOf_kind (s.extract 0 40) (by rw [e]; exact hF)
    rw [e] at hk
    exact absurd (rBad_ne h) hk
theorem signed_mod (v : Int) (h0 : 0 ≤ v) (h1 : v < 4294967296) : signed v % 4294967296 = v := by unfold signed; split <;> omega
theorem topH_back (sv : Int) (h0 : -2147483648 ≤ sv) (h1 : sv < 2147483648) : topH (decide (sv < 0)) (if sv < 0 then -sv else sv) = sv := by
  unfold topH
  by_cases hn : sv < 0
  · rw [if_pos (decide_eq_true hn), if_pos hn, Int.neg_neg]; exact IntWalk.wrap64_in _ ⟨by omega, by omega⟩
  · rw [if_neg (by simpa using hn), if_neg hn]
theorem co_mod (dp cb M : Int) (hM : mostI dp = M) (h0 : 0 ≤ cb) (h1 : cb < 4294967296) (h2 : 1 ≤ M) (h3 : M ≤ 256) : co20 dp (if cb = 0 ∧ dp ≤ 8 then M else cb) % 4294967296 = co20 dp (if cb = 0 ∧ dp ≤ 8 then M else cb) := by
  have key : 0 ≤ (if cb = 0 ∧ dp ≤ 8 then M else cb) ∧ (if cb = 0 ∧ dp ≤ 8 then M else cb) < 4294967296 := by split <;> omega
  generalize (if cb = 0 ∧ dp ≤ 8 then M else cb) = x at key ⊢
  unfold co20
  split
  · rfl
  · omega
theorem co_le (dp cb M : Int) (h1 : cb ≤ M) (h2 : 1 ≤ M) : co20 dp (if cb = 0 ∧ dp ≤ 8 then M else cb) ≤ M := by
  have key : (if cb = 0 ∧ dp ≤ 8 then M else cb) ≤ M := by split <;> omega
  generalize (if cb = 0 ∧ dp ≤ 8 then M else cb) = x at key ⊢
  unfold co20
  split <;> omega
theorem co_back (dp cb M : Int) (hM : mostI dp = M) (hd : 1 ≤ dp) (h2 : 1 ≤ M) : (if co20 dp (if cb = 0 ∧ dp ≤ 8 then M else cb) = 0 ∧ dp ≤ 8 then M else co20 dp (if cb = 0 ∧ dp ≤ 8 then M else cb)) = (if cb = 0 ∧ dp ≤ 8 then M else cb) := by
  have key : dp ≤ 8 → (if cb = 0 ∧ dp ≤ 8 then M else cb) ≠ 0 := by
    intro h8
    by_cases hc : cb = 0
    · rw [if_pos ⟨hc, h8⟩]; omega
    · rw [if_neg (fun h => hc h.1)]; exact hc
  generalize (if cb = 0 ∧ dp ≤ 8 then M else cb) = x at key ⊢
  unfold co20
  rw [hM]
  by_cases hx : 1 ≤ dp ∧ dp ≤ 8 ∧ x = M
  · rw [if_pos hx, if_pos ⟨rfl, hx.2.1⟩, hx.2.2]
  · rw [if_neg hx, if_neg (fun h => key h.2 h.1)]
set_option maxHeartbeats 1000000 in
theorem back_same (s : ByteArray) (H : Hd) (m : List Int) (r g b q en : Int) (k0 k1 k2 k3 k4 k5 k6 k7 : Int) (hm8 : m = [k0, k1, k2, k3, k4, k5, k6, k7]) (hf : H.fine) (hR : rRead20 s 0 = rOk H r g b q 0 en) (hl : lowK s 0 4 = 40) (hH : H = hdOf (s.extract 0 40))
    (hm : m = if H.mt = 3 then mk8 (mkR s 0 H.sz) H.dp else comM H.dp) (w0 : wordI k0 k1 = r) (w1 : wordI k2 k3 = g) (w2 : wordI k4 k5 = b) (t : ByteArray) (ht : outS H.w H.h H.top H.dp H.mt H.co k0 k1 k2 k3 k4 k5 = t) :
    (¬ ∃ k a : Int, k ≠ 0 ∧ rRead20 t 0 = rBad20 k a) ∧ ∀ HD m' r' g' b' q' en', GoodAgain t HD m' r' g' b' q' en' → HD.at m' 0 = H.at m 0 := by
  obtain ⟨hs, hF⟩ := rread_40' s hl hR
  have hO : OutIs t H.w (topH H.top H.h) H.dp H.mt (co20 H.dp H.co) := ht ▸ outS_is H.w H.h H.top H.dp H.mt H.co k0 k1 k2 k3 k4 k5
  have hK := fun h3 => ht ▸ outS_masks H.w H.h H.top H.dp H.mt H.co k0 k1 k2 k3 k4 k5 h3
  have hbs : (s.extract 0 40).size = 40 := by rw [ByteArray.size_extract]; omega
  have hg : hdOf (s.extract 0 40) = greatH (s.extract 0 40) := by unfold hdOf; rw [if_neg (by omega)]
  rw [hg] at hH
  have htz : 40 ≤ t.size := by rw [hO.z]; split <;> omega
  have hbt : (t.extract 0 40).size = 40 := by rw [ByteArray.size_extract]; omega
  have ext : ∀ i k, i + k ≤ 40 → lowK (t.extract 0 40) i k = lowK t i k := fun i k h => by rw [lowK_ext t 0 40 i k (by omega) htz, Nat.zero_add]
  obtain ⟨B, hB⟩ : ∃ B, s.extract 0 40 = B := ⟨_, rfl⟩
  rw [hB] at hF hbs hg hH
  have hrows := firstW_no hF
  unfold greatF sidesF at hrows
  simp only [List.cons_append, List.nil_append, List.mem_cons, List.not_mem_nil, or_false, forall_eq_or_imp, forall_eq, decide_eq_false_iff_not] at hrows
  obtain ⟨f1, f2, f3, f4, f5, f6, f7, f8, f9, f10⟩ := hrows
  have v4 := lowK4_bd B 4
  have v8 := lowK4_bd B 8
  have v12 := lowK_bd B 12 2
  have v14 := lowK_bd B 14 2
  have v16 := lowK4_bd B 16
  have v32 := lowK4_bd B 32
  have p16 : (2 : Int) ^ (8 * 2) = 65536 := by decide
  rw [p16] at v12 v14
  have hdp := dpB_in (show dpB (lowK B 14 2) true = true by simpa using f6)
  have eW : H.w = signed (lowK B 4 4) := by rw [hH]; rfl
  have eH : H.h = if signed (lowK B 8 4) < 0 then -signed (lowK B 8 4) else signed (lowK B 8 4) := by rw [hH]; rfl
  have eT : H.top = decide (signed (lowK B 8 4) < 0) := by rw [hH]; rfl
  have eD : H.dp = lowK B 14 2 := by rw [hH]; rfl
  have eM : H.mt = lowK B 16 4 := by rw [hH]; rfl
  have eC : H.co = if lowK B 32 4 = 0 ∧ lowK B 14 2 ≤ 8 then mostI (lowK B 14 2) else lowK B 32 4 := by rw [hH]; rfl
  have eZ : H.sz = 40 := by rw [hH]; show (B.size : Int) = 40; rw [hbs]; rfl
  have sb := signed_bd (lowK B 8 4) v8.1 v8.2
  have tH : topH H.top H.h = signed (lowK B 8 4) := by
    rw [eT, eH]; exact topH_back _ sb.1 sb.2
  have t4 : lowK (t.extract 0 40) 4 4 = lowK B 4 4 := by rw [ext 4 4 (by decide), hO.f4, eW, signed_mod _ v4.1 v4.2]
  have t8 : lowK (t.extract 0 40) 8 4 = lowK B 8 4 := by rw [ext 8 4 (by decide), hO.f8, tH, signed_mod _ v8.1 v8.2]
  have t12 : lowK (t.extract 0 40) 12 2 = 1 := by rw [ext 12 2 (by decide), hO.f12]
  have t14 : lowK (t.extract 0 40) 14 2 = lowK B 14 2 := by rw [ext 14 2 (by decide), hO.f14, eD]; omega
  have t16 : lowK (t.extract 0 40) 16 4 = lowK B 16 4 := by rw [ext 16 4 (by decide), hO.f16, eM]; omega
  obtain ⟨dp, hdpE⟩ : ∃ x, lowK B 14 2 = x := ⟨_, rfl⟩
  obtain ⟨cb, hcb⟩ : ∃ x, lowK B 32 4 = x := ⟨_, rfl⟩
  obtain ⟨M, hM⟩ : ∃ x, mostI dp = x := ⟨_, rfl⟩
  rw [hdpE] at hdp eD eC f6 f8 f10 t14
  rw [hcb] at eC f10 v32
  rw [hM] at eC f10
  have hMb := mostI_bd dp (by omega)
  rw [hM] at hMb
  have hcM : cb ≤ M := by
    have h1 : dpB dp true = true := by simpa using f6
    rw [h1, Bool.true_and, decide_eq_false_iff_not] at f10; omega
  have t32 : lowK (t.extract 0 40) 32 4 = co20 dp H.co := by
    rw [ext 32 4 (by decide), hO.f32, eD]
    rw [eC]; exact co_mod dp cb M hM v32.1 v32.2 hMb.1 hMb.2
  have hcoE : (if co20 dp H.co = 0 ∧ dp ≤ 8 then M else co20 dp H.co) = H.co := by
    rw [eC]; exact co_back dp cb M hM (by omega) hMb.1
  have hcoM : co20 dp H.co ≤ M := by
    rw [eC]; exact co_le dp cb M hcM hMb.1
  have hGH : greatH (t.extract 0 40) = H := by
    rw [hH]
    unfold greatH
    rw [t4, t8, t14, t16, t32, hdpE, hcb, hM, hcoE, eC, hbt, hbs]
  have hGF : (firstW (greatF (t.extract 0 40))).2 = false := by
    refine firstW_all ?_
    unfold greatF sidesF
    rw [t4, t8, t12, t14, t16, t32]
    simp only [List.cons_append, List.nil_append, List.mem_cons, List.not_mem_nil, or_false, forall_eq_or_imp, forall_eq, decide_eq_false_iff_not]
    refine ⟨f1, f2, f3, f4, rfl, f6, f7, f8, f9, ?_⟩
    rw [hM, Bool.and_eq_false_iff]
    right
    rw [decide_eq_false_iff_not]; omega
  have hrt := rread_40 t hO.f0 htz hGF
  rw [hGH] at hrt
  have hrs := rread_40 s hl hs (by rw [hB]; exact hF)
  rw [hB, ← hH, hR] at hrs
  have hmk : H.mt = 3 → mkR t 0 H.sz = mkR s 0 H.sz := by
    intro h3
    have hk := hK h3
    unfold rMk at hrs
    rw [if_pos (by rw [h3]; rfl)] at hrs
    by_cases hz : (s.size : Int) < (if (H.sz == 40) = true then ((0 : Nat) : Int) + 52 else 40)
    · rw [if_pos hz] at hrs; exact absurd (rBad_ne hrs.symm) (by decide)
    rw [if_neg hz] at hrs
    by_cases hc : ((scan4 (rstep (mkR s 0 H.sz) H.dp)).2 != 0) = true
    · rw [if_pos hc] at hrs; exact absurd (rBad_ne hrs.symm) (by decide)
    rw [if_neg hc] at hrs
    have e := congrArg (fun l => (l[7]?, l[8]?, l[9]?)) hrs
    simp only [rOk, List.getElem?_cons_succ, List.getElem?_cons_zero, Prod.mk.injEq, Option.some.injEq, Value.int.injEq, true_and] at e
    obtain ⟨e0, e1, e2⟩ := e
    have b0 := lowK4_bd s 40
    have b1 := lowK4_bd s 44
    have b2 := lowK4_bd s 48
    have m0 : mkR s 0 H.sz 0 = lowK s 40 4 := rfl
    have m1 : mkR s 0 H.sz 1 = lowK s 44 4 := rfl
    have m2 : mkR s 0 H.sz 2 = lowK s 48 4 := rfl
    funext k
    unfold mkR
    have q0 : lowK t (0 + 40) 4 = lowK s (0 + 40) 4 := by show lowK t 40 4 = lowK s 40 4; rw [hk.1, w0, e0, m0]; omega
    have q1 : lowK t (0 + 44) 4 = lowK s (0 + 44) 4 := by show lowK t 44 4 = lowK s 44 4; rw [hk.2.1, w1, e1, m1]; omega
    have q2 : lowK t (0 + 48) 4 = lowK s (0 + 48) 4 := by show lowK t 48 4 = lowK s 48 4; rw [hk.2.2, w2, e2, m2]; omega
    rw [q0, q1, q2, eZ, if_neg (show ¬ (56 : Int) ≤ 40 by decide), if_neg (show ¬ (56 : Int) ≤ 40 by decide)]
  have hok : ∃ en', rRead20 t 0 = rOk H r g b q 0 en' := by
    rw [hrt]
    unfold rMk at hrs ⊢
    by_cases h3 : H.mt = 3
    · rw [if_pos (by rw [h3]; rfl)] at hrs ⊢
      by_cases hz : (s.size : Int) < (if (H.sz == 40) = true then ((0 : Nat) : Int) + 52 else 40)
      · rw [if_pos hz] at hrs; exact absurd (rBad_ne hrs.symm) (by decide)
      rw [if_neg hz] at hrs
      rw [if_neg (by rw [hO.z, if_pos h3, eZ]; decide), hmk h3]
      by_cases hc : ((scan4 (rstep (mkR s 0 H.sz) H.dp)).2 != 0) = true
      · rw [if_pos hc] at hrs; exact absurd (rBad_ne hrs.symm) (by decide)
      rw [if_neg hc] at hrs ⊢
      exact ⟨_, hrs.symm⟩
    · rw [if_neg (by simpa using h3)] at hrs ⊢
      exact ⟨_, hrs.symm⟩
  obtain ⟨en', hok⟩ := hok
  refine ⟨fun ⟨k, a, hk, he⟩ => hk (rBad_ne (he.symm.trans hok)), ?_⟩
  intro HD m' r' g' b' q' en2 hG
  obtain ⟨-, -, -, -, -, ⟨n, hn, hh⟩, hm'⟩ := hG
  have hn40 : n = 40 := by rw [hO.f0] at hn; omega
  have hHD : HD = H := by
    rw [hh, hn40, Nat.zero_add]
    unfold hdOf
    rw [if_neg (by omega), hGH]
  rw [hm', hHD, hm]
  by_cases h3 : H.mt = 3
  · rw [if_pos h3, if_pos h3, hmk h3]
  · rw [if_neg h3, if_neg h3]
end Go.Proofs.Ytlhcjnjajkfahaa

/- Parts. -/
import Derived.Test.YtfchnibjjokmbaaGreatK15
import Derived.Test.YtfchnibjjokmbaaGreatK22
set_option linter.all false
set_option maxRecDepth 100000
set_option maxHeartbeats 16000000
open Go.Value renaming int → J, pointer → Y
open Go.IntKind renaming i64 → I, u8 → U
namespace Go.Proofs.YtfchnibjjokmbaaGreat
open Go.RowKit
def JK.px (K : JK) (e : Int) : List Value := [J U (aG (K.p.ent e.toNat) 0), J U (aG (K.p.ent e.toNat) 1), J U (aG (K.p.ent e.toNat) 2), J U (aG (K.p.ent e.toNat) 3)]
def JK.pxs (K : JK) (es : Nat → Int) : Nat → Nat → List Value
 | 0, i => []
 | c + 1, i => K.px (es i) ++ K.pxs es c (i + 1)
theorem pxs_len (K : JK) (es : Nat → Int) : ∀ c i, (K.pxs es c i).length = 4 * c
 | 0, i => rfl
 | c + 1, i => by rw [JK.pxs, List.length_append, pxs_len K es c (i + 1)]; show 4 + 4 * c = _; omega
theorem pxs_snoc (K : JK) (es : Nat → Int) : ∀ c i, K.pxs es (c + 1) i = K.pxs es c i ++ K.px (es (i + c))
 | 0, i => by show K.px (es i) ++ [] = [] ++ K.px (es i); rw [List.append_nil, List.nil_append]
 | c + 1, i => by
   rw [JK.pxs, pxs_snoc K es c (i + 1), JK.pxs, List.append_assoc, show i + 1 + c = i + (c + 1) by omega]
theorem put4_putC (d : List Int) (i : Nat) (c0 c1 c2 c3 : Int) (h : i + 4 ≤ d.length) : aY (put4 d i c0 c1 c2 c3) = putC (aY d) i [J U c0, J U c1, J U c2, J U c3] := by
 have hl : (aY d).length = d.length := by unfold aY; simp
 apply List.ext_getElem?
 intro j
 rw [putC_get _ _ _ (by rw [hl]; exact h)]
 unfold aY put4
 rw [List.getElem?_map]
 simp only [List.getElem?_set, List.length_set, List.getElem?_map]
 show _ = if i ≤ j ∧ j < i + 4 then _ else _
 by_cases h1 : i ≤ j ∧ j < i + 4
 · rw [if_pos h1]
   rcases (show j = i ∨ j = i + 1 ∨ j = i + 2 ∨ j = i + 3 by omega) with e | e | e | e
   · subst e
     rw [if_neg (by omega), if_neg (by omega), if_neg (by omega), if_pos rfl, if_pos (by omega), Nat.sub_self]; rfl
   · subst e
     rw [if_neg (by omega), if_neg (by omega), if_pos rfl, if_pos (by omega), show i + 1 - i = 1 by omega]; rfl
   · subst e
     rw [if_neg (by omega), if_pos rfl, if_pos (by omega), show i + 2 - i = 2 by omega]; rfl
   · subst e
     rw [if_pos rfl, if_pos (by omega), show i + 3 - i = 3 by omega]; rfl
 · rw [if_neg h1, if_neg (by omega), if_neg (by omega), if_neg (by omega), if_neg (by omega)]
def JK.at (K : JK) (x y : Nat) : Nat := 4 * ((K.n.H - 1 - y) * K.n.W + x)
theorem at_in {K : JK} {x y : Nat} (n : Nat) (hy : y < K.n.H) (hx : x + n ≤ K.n.W) : K.at x y + 4 * n ≤ 4 * (K.n.W * K.n.H) := by
 have := place_in (W := K.n.W) (H := K.n.H) (x := x) (y := y) (n := n) hy hx
 unfold JK.at; omega
theorem puts_sim {K : JK} (es : Nat → Int) : ∀ (c i : Nat) (σ : JS), σ.l.ok → σ.l.br = false → σ.a ≤ K.x.e → σ.x + c ≤ K.n.W → σ.y < K.n.H → σ.d.length = 4 * (K.n.W * K.n.H) →
 Cost K σ (K.putsL es c i σ) 0 ∧ ((K.putsL es c i σ).1.l.br = false → (K.putsL es c i σ).2 = (0, 0) ∧ (K.putsL es c i σ).1.x = σ.x + c ∧ (K.putsL es c i σ).1.y = σ.y ∧ (K.putsL es c i σ).1.a = σ.a ∧
  aY (K.putsL es c i σ).1.d = putC (aY σ.d) (K.at σ.x σ.y) (K.pxs es c i))
 | 0, i, σ, ho, hb, ha, hx, hy, hl => ⟨Cost.stay ho hb ha _, fun _ => ⟨rfl, rfl, rfl, rfl, (putC_nil _ _).symm⟩⟩
 | c + 1, i, σ, ho, hb, ha, hx, hy, hl => by
   obtain ⟨hc, h0, h1⟩ := put_cost (K := K) ho hb ha (by omega) hy (aG (K.p.ent (es i).toNat) 0) (aG (K.p.ent (es i).toNat) 1) (aG (K.p.ent (es i).toNat) 2) (aG (K.p.ent (es i).toNat) 3)
   change Cost K σ (K.putE σ (es i)) 0 at hc
   change (K.putE σ (es i)).2.1 = 0 → (K.putE σ (es i)).2 = (0, 0) ∧ (K.putE σ (es i)).1.l.br = false ∧ (K.putE σ (es i)).1.x = σ.x + 1 ∧ (K.putE σ (es i)).1.y = σ.y ∧ (K.putE σ (es i)).1.a = σ.a ∧ (K.putE σ (es i)).1.d = put4 σ.d (K.at σ.x σ.y) (aG (K.p.ent (es i).toNat) 0) (aG (K.p.ent (es i).toNat) 1) (aG (K.p.ent (es i).toNat) 2) (aG (K.p.ent (es i).toNat) 3) at h0
   change (K.putE σ (es i)).2.1 ≠ 0 → (K.putE σ (es i)).1.l.br = true at h1
   rw [JK.putsL]
   by_cases hq : (K.putE σ (es i)).2.1 = 0
   · rw [if_pos hq]
     obtain ⟨e1, e2, e3, e4, e5, e6⟩ := h0 hq
     obtain ⟨g1, g2⟩ := puts_sim es c (i + 1) (K.putE σ (es i)).1 hc.ok e2 hc.a1 (by rw [e3]; omega) (by rw [e4]; exact hy) (by rw [hc.len]; exact hl)
     refine ⟨by have := Cost.trans (t := (K.putE σ (es i)).2) hc e2 g1; exact this, fun hf => ?_⟩
     obtain ⟨f1, f2, f3, f4, f5⟩ := g2 hf
     have hin := at_in (K := K) (x := σ.x) (y := σ.y) (c + 1) hy hx
     refine ⟨f1, by rw [f2, e3]; omega, by rw [f3, e4], by rw [f4, e5], ?_⟩
     rw [f5, e3, e4, e6, put4_putC _ _ _ _ _ _ (by rw [hl]; omega)]
     have e7 : K.at (σ.x + 1) σ.y = K.at σ.x σ.y + 4 := by unfold JK.at; omega
     have e8 := putC_putC (aY σ.d) (K.at σ.x σ.y) (K.px (es i)) (K.pxs es c (i + 1)) (by rw [pxs_len]; show _ + 4 + _ ≤ _; unfold aY; rw [List.length_map, hl]; omega)
     rw [e7, JK.pxs]
     exact e8
   · rw [if_neg hq]
     exact ⟨hc, fun hf => by rw [h1 hq] at hf; cases hf⟩
structure KOk (K : JK) (tb : List Value) : Prop where
 dp : K.n.dp = 8 ∨ K.n.dp = 4
 px : ∀ e : Nat, e < K.p.n → pxC tb e = K.px e
theorem ent_nonneg (b d : Int) (i : Nat) (h : 0 ≤ b) : 0 ≤ aT b d i := by unfold aT; split; exact h; split <;> omega
theorem has_iff (K : JK) (b d : Int) (i : Nat) (h : 0 ≤ b) : K.p.has (aT b d i) = true ↔ (aT b d i).toNat < K.p.n := by
 have := ent_nonneg b d i h
 unfold Pal.has; rw [decide_eq_true_iff]; omega
theorem px_eq {K : JK} {tb : List Value} (hK : KOk K tb) (b d : Int) (i : Nat) (h : 0 ≤ b) (hh : (aT b d i).toNat < K.p.n) : K.px (aT b d i) = pxC tb (aT b d i).toNat := by
 rw [hK.px _ hh]
 have := ent_nonneg b d i h
 unfold JK.px
 rw [Int.toNat_natCast]
theorem runP_ok {K : JK} {tb : List Value} (hK : KOk K tb) (b d : Int) (pl : Nat) (h : 0 ≤ b) : ∀ n, (∀ i, i < n → (aT b d i).toNat < K.p.n) → runP tb K.p.n b d pl n = .ok (K.pxs (aT b d) n 0)
 | 0, _ => rfl
 | n + 1, hh => by
   rw [runP, runP_ok hK b d pl h n (fun i hi => hh i (by omega))]
   simp only
   rw [if_pos (hh n (by omega)), pxs_snoc, Nat.zero_add, px_eq hK b d n h (hh n (by omega))]
theorem runP_bad (tb : List Value) (M : Nat) (b d : Int) (pl i : Nat) (h : ¬ (aT b d i).toNat < M) : ∀ n, i < n → runP tb M b d pl n = .error (2, (pl : Int) + 1)
 | 0, hi => by omega
 | n + 1, hi => by
   rw [runP]
   by_cases h1 : i < n
   · rw [runP_bad tb M b d pl i h n h1]
   · obtain rfl : i = n := by omega
     cases hr : runP tb M b d pl i with
     | ok p => simp only; rw [if_neg h]
     | error e =>
       simp only
       have key : ∀ n e, runP tb M b d pl n = .error e → e = (2, (pl : Int) + 1) := by
        intro n
        induction n with
        | zero => intro e h; cases h
        | succ n ih =>
          intro e h
          rw [runP] at h
          cases hq : runP tb M b d pl n with
          | error e2 => rw [hq] at h; injection h with h; rw [← h]; exact ih e2 hq
          | ok q =>
            rw [hq] at h; simp only at h
            by_cases h2 : (aT b d n).toNat < M
            · rw [if_pos h2] at h; cases h
            · rw [if_neg h2] at h; injection h with h; exact h.symm
       rw [key i e hr]
theorem entR_par (b d : Int) (hd : d = 8 ∨ d = 4) (i : Nat) : aT b d i = if i % 2 = 0 then aT b d 0 else aT b d 1 := by
 unfold aT
 rcases hd with rfl | rfl
 · rw [if_pos rfl, if_pos rfl, if_pos rfl]; split <;> rfl
 · have h48 : ¬ ((4 : Int) = 8) := by decide
   rw [if_neg h48, if_neg h48, if_neg h48]
   rfl
structure CmdSim (K : JK) (σ : JS) (q : JS × (Int × Int)) (ref : E22 S22) : Prop where
 cost : Cost K σ q (if q.2.1 = 0 then 0 else 1)
 sim : q.1.l.br = false → match ref with
  | .error e => q.2 = e ∧ e.1 ≠ 0
  | .ok τ => q.2 = (0, 0) ∧ q.1.x = τ.x ∧ q.1.y = τ.y ∧ q.1.a = τ.pl ∧ aY q.1.d = τ.L
theorem run_sim {K : JK} {tb : List Value} (hK : KOk K tb) (σ : JS) (pl n : Nat) (ho : σ.l.ok) (hb : σ.l.br = false) (ha : σ.a ≤ K.x.e) (hpl : σ.a = pl + 2) (hx : σ.x ≤ K.n.W) (hl : σ.d.length = 4 * (K.n.W * K.n.H)) (hn : 0 < n) :
 CmdSim K σ (K.run σ n (aG K.x.s (pl + 1)) pl) (run22 K.x.s tb K.p.n K.n.W K.n.H K.n.dp ⟨σ.x, σ.y, pl, aY σ.d⟩ n) := by
 have hv := (aS K.x.s (pl + 1)).1
 unfold JK.run run22
 by_cases hr : K.room σ n
 · rw [if_neg (by simpa using hr)]
   obtain ⟨hy, hx2⟩ := hr
   rw [if_neg (show ¬ (K.n.H ≤ σ.y ∨ K.n.W < σ.x + n) by omega)]
   by_cases hh : K.p.has (aT (aG K.x.s (pl + 1)) K.n.dp 0) = false ∨ K.p.has (aT (aG K.x.s (pl + 1)) K.n.dp (if n = 1 then 0 else 1)) = false
   · rw [if_pos hh]
     have : runP tb K.p.n (aG K.x.s (pl + 1)) K.n.dp pl n = .error (2, (pl : Int) + 1) := by
      rcases hh with hh | hh
      · exact runP_bad _ _ _ _ _ 0 (fun h => by rw [(has_iff K _ _ _ hv).2 h] at hh; cases hh) n hn
      · by_cases h1 : n = 1
        · rw [if_pos h1] at hh
          exact runP_bad _ _ _ _ _ 0 (fun h => by rw [(has_iff K _ _ _ hv).2 h] at hh; cases hh) n hn
        · rw [if_neg h1] at hh
          exact runP_bad _ _ _ _ _ 1 (fun h => by rw [(has_iff K _ _ _ hv).2 h] at hh; cases hh) n (by omega)
     show CmdSim K σ _ (match runP tb K.p.n (aG K.x.s (pl + 1)) K.n.dp pl n with | .error e => .error e | .ok p => _)
     rw [this]
     exact ⟨(Cost.stay ho hb ha _).mono (Nat.zero_le _), fun _ => ⟨rfl, by simp⟩⟩
   · rw [if_neg hh]
     have h0 : (aT (aG K.x.s (pl + 1)) K.n.dp 0).toNat < K.p.n := (has_iff K _ _ _ hv).1 (by cases hq : K.p.has (aT (aG K.x.s (pl + 1)) K.n.dp 0) with | true => rfl | false => exact absurd (Or.inl hq) hh)
     have h1 : (aT (aG K.x.s (pl + 1)) K.n.dp (if n = 1 then 0 else 1)).toNat < K.p.n := (has_iff K _ _ _ hv).1 (by cases hq : K.p.has (aT (aG K.x.s (pl + 1)) K.n.dp (if n = 1 then 0 else 1)) with | true => rfl | false => exact absurd (Or.inr hq) hh)
     have hall : ∀ i, i < n → (aT (aG K.x.s (pl + 1)) K.n.dp i).toNat < K.p.n := by
      intro i hi
      rw [entR_par _ _ hK.dp i]
      by_cases h2 : n = 1
      · rw [if_pos h2] at h1; rw [if_pos (by omega)]; exact h0
      · rw [if_neg h2] at h1; split
        · exact h0
        · exact h1
     have hes : ∀ c i, i + c ≤ n → K.pxs (fun i => if i % 2 = 0 then aT (aG K.x.s (pl + 1)) K.n.dp 0 else aT (aG K.x.s (pl + 1)) K.n.dp (if n = 1 then 0 else 1)) c i = K.pxs (aT (aG K.x.s (pl + 1)) K.n.dp) c i := by
      intro c
      induction c with
      | zero => intro i _; rfl
      | succ c ih =>
        intro i hi
        rw [JK.pxs, JK.pxs, ih (i + 1) (by omega)]
        congr 2
        rw [entR_par _ _ hK.dp i]
        by_cases h2 : i % 2 = 0
        · rw [if_pos h2, if_pos h2]
        · rw [if_neg h2, if_neg h2, if_neg (by omega)]
     show CmdSim K σ _ (match runP tb K.p.n (aG K.x.s (pl + 1)) K.n.dp pl n with | .error e => .error e | .ok p => _)
     rw [runP_ok hK _ _ pl hv n hall]
     obtain ⟨g1, g2⟩ := puts_sim (K := K) (fun i => if i % 2 = 0 then aT (aG K.x.s (pl + 1)) K.n.dp 0 else aT (aG K.x.s (pl + 1)) K.n.dp (if n = 1 then 0 else 1)) n 0 σ ho hb ha hx2 hy hl
     refine ⟨g1.mono (Nat.zero_le _), fun hf => ?_⟩
     obtain ⟨f1, f2, f3, f4, f5⟩ := g2 hf
     refine ⟨f1, f2, f3, by rw [← hpl]; exact f4, ?_⟩
     show aY _ = putC (aY σ.d) (K.at σ.x σ.y) _
     rw [← hes n 0 (by omega)]; exact f5
 · rw [if_pos (by simpa using hr)]
   have h2 : K.n.H ≤ σ.y ∨ K.n.W < σ.x + n := by unfold JK.room at hr; omega
   rw [if_pos h2]
   exact ⟨(Cost.stay ho hb ha _).mono (Nat.zero_le _), fun _ => ⟨rfl, by simp⟩⟩
structure PlR (K : JK) (tb : List Value) (pl : Nat) (σ0 : JS) (i : Nat) (σ : JS) : Prop where
 ok : σ.l.ok
 br : σ.l.br = false
 x : σ.x = σ0.x + i
 y : σ.y = σ0.y
 len : σ.d.length = σ0.d.length
 d : ∃ p, ad K.x.s tb K.p.n K.n.dp pl K.x.e i = .ok p ∧ aY σ.d = putC (aY σ0.d) (K.at σ0.x σ0.y) p
theorem ent_shift {K : JK} (hd : K.n.dp = 8 ∨ K.n.dp = 4) (b : Int) (i0 j : Nat) (h : i0 % K.each = 0) (hj : j < K.each) : aT b K.n.dp (i0 + j) = aT b K.n.dp j ∧ (i0 + j) / K.each = i0 / K.each := by
 rcases each_is hd with ⟨h1, h2⟩ | ⟨h1, h2⟩
 · rw [h2] at h hj ⊢
   rw [h1]
   exact ⟨rfl, by omega⟩
 · rw [h2] at h hj ⊢
   rw [h1]
   have h48 : ¬ ((4 : Int) = 8) := by decide
   unfold aT
   rw [if_neg h48, if_neg h48]
   refine ⟨?_, by omega⟩
   by_cases hp : j % 2 = 0
   · rw [if_pos hp, if_pos (by omega)]
   · rw [if_neg hp, if_neg (by omega)]
theorem byte_sim {K : JK} {tb : List Value} (hK : KOk K tb) (hT : tb.length = 4 * K.p.n) (pl n : Nat) (σ0 : JS) (hx : σ0.x + n ≤ K.n.W) (hy : σ0.y < K.n.H) (hl : σ0.d.length = 4 * (K.n.W * K.n.H)) (i0 b : Nat) (hi0 : i0 % K.each = 0) (hb : b = pl + 2 + i0 / K.each) (hbe : b < K.x.e) :
 ∀ (c j : Nat) (σ : JS), j + c ≤ K.each → i0 + j + c ≤ n → PlR K tb pl σ0 (i0 + j) σ → σ.a ≤ K.x.e →
 Cost K σ (K.byteL (aG K.x.s b) b c j σ) (if (K.byteL (aG K.x.s b) b c j σ).2.1 = 0 then 0 else 1) ∧ ((K.byteL (aG K.x.s b) b c j σ).1.l.br = false →
  ((K.byteL (aG K.x.s b) b c j σ).2 = (0, 0) ∧ PlR K tb pl σ0 (i0 + j + c) (K.byteL (aG K.x.s b) b c j σ).1 ∧ (K.byteL (aG K.x.s b) b c j σ).1.a = σ.a) ∨
  ((K.byteL (aG K.x.s b) b c j σ).2 = (2, (b : Int)) ∧ ad K.x.s tb K.p.n K.n.dp pl K.x.e n = .error (2, (b : Int))))
 | 0, j, σ, hj, hn, hR, ha => ⟨(Cost.stay hR.ok hR.br ha _).mono (Nat.zero_le _), fun _ => Or.inl ⟨rfl, hR, rfl⟩⟩
 | c + 1, j, σ, hj, hn, hR, ha => by
   have hv := (aS K.x.s b).1
   obtain ⟨es, ed⟩ := ent_shift hK.dp (aG K.x.s b) i0 j hi0 (by omega)
   obtain ⟨p, hp, hd⟩ := hR.d
   have eb : pl + 2 + (i0 + j) / (8 / K.n.dp).toNat = b := by
    show pl + 2 + (i0 + j) / K.each = b; rw [ed, hb]
   have step : ad K.x.s tb K.p.n K.n.dp pl K.x.e (i0 + j + 1) = if (aT (aG K.x.s b) K.n.dp j).toNat < K.p.n then .ok (p ++ pxC tb (aT (aG K.x.s b) K.n.dp j).toNat) else .error (2, (b : Int)) := by
    rw [ad, hp]
    simp only
    rw [eb, if_neg (by omega), es]
    have e2 : (pl : Int) + 2 + (((i0 + j) / (8 / K.n.dp).toNat : Nat) : Int) = (b : Int) := by
     rw [← eb]; omega
    rw [e2]
   rw [JK.byteL]
   by_cases hh : K.p.has (aT (aG K.x.s b) K.n.dp j) = false
   · rw [if_pos hh]
     have hbad : ¬ (aT (aG K.x.s b) K.n.dp j).toNat < K.p.n := fun h => by rw [(has_iff K _ _ _ hv).2 h] at hh; cases hh
     rw [if_neg hbad] at step
     refine ⟨(Cost.stay hR.ok hR.br ha _).mono (Nat.zero_le _), fun _ => Or.inr ⟨rfl, ?_⟩⟩
     have := plainP_err K.x.s tb K.p.n K.n.dp pl K.x.e (i0 + j + 1) (n - (i0 + j + 1)) _ step
     rw [show i0 + j + 1 + (n - (i0 + j + 1)) = n by omega] at this
     exact this
   · rw [if_neg hh]
     have hgood : (aT (aG K.x.s b) K.n.dp j).toNat < K.p.n := (has_iff K _ _ _ hv).1 (by cases hq : K.p.has (aT (aG K.x.s b) K.n.dp j) with | true => rfl | false => exact absurd hq hh)
     rw [if_pos hgood] at step
     obtain ⟨hc, h0, h1⟩ := put_cost (K := K) hR.ok hR.br ha (by rw [hR.x]; omega) (by rw [hR.y]; exact hy) (aG (K.p.ent (aT (aG K.x.s b) K.n.dp j).toNat) 0) (aG (K.p.ent (aT (aG K.x.s b) K.n.dp j).toNat) 1) (aG (K.p.ent (aT (aG K.x.s b) K.n.dp j).toNat) 2) (aG (K.p.ent (aT (aG K.x.s b) K.n.dp j).toNat) 3)
     obtain ⟨e, he⟩ : ∃ e, aT (aG K.x.s b) K.n.dp j = e := ⟨_, rfl⟩
     have hpx := px_eq hK (aG K.x.s b) K.n.dp j hv hgood
     rw [he] at hc h0 h1 step hpx ⊢
     change Cost K σ (K.putE σ e) 0 at hc
     change (K.putE σ e).2.1 = 0 → (K.putE σ e).2 = (0, 0) ∧ (K.putE σ e).1.l.br = false ∧ (K.putE σ e).1.x = σ.x + 1 ∧ (K.putE σ e).1.y = σ.y ∧ (K.putE σ e).1.a = σ.a ∧ (K.putE σ e).1.d = put4 σ.d (K.at σ.x σ.y) (aG (K.p.ent e.toNat) 0) (aG (K.p.ent e.toNat) 1) (aG (K.p.ent e.toNat) 2) (aG (K.p.ent e.toNat) 3) at h0
     change (K.putE σ e).2.1 ≠ 0 → (K.putE σ e).1.l.br = true at h1
     by_cases hq : (K.putE σ e).2.1 = 0
     · rw [if_pos hq]
       obtain ⟨e1, e2, e3, e4, e5, e6⟩ := h0 hq
       have hpl := plainP_len K.x.s tb K.p.n K.n.dp pl K.x.e hT (i0 + j) p hp
       have hin := at_in (K := K) (x := σ0.x) (y := σ0.y) n hy hx
       have hu0 : (aY σ0.d).length = 4 * (K.n.W * K.n.H) := by unfold aY; rw [List.length_map]; exact hl
       have hR2 : PlR K tb pl σ0 (i0 + (j + 1)) (K.putE σ e).1 := by
        refine ⟨hc.ok, e2, by rw [e3, hR.x]; omega, by rw [e4, hR.y], by rw [hc.len, hR.len], _, step, ?_⟩
        have hat : K.at σ.x σ.y = K.at σ0.x σ0.y + 4 * (i0 + j) := by rw [hR.x, hR.y]; unfold JK.at; omega
        rw [e6, put4_putC _ _ _ _ _ _ (by rw [hR.len, hl, hat]; omega), hd]
        have e7 : K.at σ.x σ.y = K.at σ0.x σ0.y + p.length := by rw [hpl, hR.x, hR.y]; unfold JK.at; omega
        rw [e7, ← hpx]
        exact putC_putC _ _ _ _ (by rw [hpl, hu0]; show _ + _ + 4 ≤ _; omega)
       obtain ⟨g1, g2⟩ := byte_sim hK hT pl n σ0 hx hy hl i0 b hi0 hb hbe c (j + 1) (K.putE σ e).1 (by omega) (by omega) hR2 hc.a1
       refine ⟨by have := Cost.trans (t := (K.putE σ e).2) hc e2 g1; rw [Nat.zero_add] at this; exact this, fun hf => ?_⟩
       rcases g2 hf with ⟨f1, f2, f3⟩ | f1
       · exact Or.inl ⟨f1, by rw [show i0 + j + (c + 1) = i0 + (j + 1) + c by omega]; exact f2, by rw [f3, e5]⟩
       · exact Or.inr f1
     · rw [if_neg hq]
       exact ⟨hc.mono (Nat.zero_le _), fun hf => by rw [h1 hq] at hf; cases hf⟩
theorem plainL_sim {K : JK} {tb : List Value} (hK : KOk K tb) (hT : tb.length = 4 * K.p.n) (pl n : Nat) (σ0 : JS) (hx : σ0.x + n ≤ K.n.W) (hy : σ0.y < K.n.H) (hl : σ0.d.length = 4 * (K.n.W * K.n.H)) :
 ∀ (m c : Nat) (σ : JS), c ≤ n → m = K.bytes c → (0 < c → (n - c) % K.each = 0 ∧ σ.a = pl + 2 + (n - c) / K.each) → PlR K tb pl σ0 (n - c) σ → σ.a ≤ K.x.e →
 Cost K σ (K.plainL m c σ) (if (K.plainL m c σ).2.1 = 0 then 0 else 1) ∧ ((K.plainL m c σ).1.l.br = false →
  ((K.plainL m c σ).2 = (0, 0) ∧ PlR K tb pl σ0 n (K.plainL m c σ).1 ∧ (K.plainL m c σ).1.a = σ.a + m) ∨ ((K.plainL m c σ).2.1 ≠ 0 ∧ ad K.x.s tb K.p.n K.n.dp pl K.x.e n = .error (K.plainL m c σ).2))
 | 0, c, σ, hc, hm, hi, hR, ha => by
   have h0 : c = 0 := by
    unfold JK.bytes at hm
    rcases each_is hK.dp with ⟨h1, h2⟩ | ⟨h1, h2⟩ <;> rw [h2] at hm <;> omega
   subst h0
   exact ⟨(Cost.stay hR.ok hR.br ha _).mono (Nat.zero_le _), fun _ => Or.inl ⟨rfl, hR, rfl⟩⟩
 | m + 1, c, σ, hc, hm, hi, hR, ha => by
   have hcp : 0 < c := by
    unfold JK.bytes at hm
    rcases each_is hK.dp with ⟨h1, h2⟩ | ⟨h1, h2⟩ <;> rw [h2] at hm <;> omega
   obtain ⟨hi1, hi2⟩ := hi hcp
   rw [JK.plainL]
   rcases next_cost (K := K) hR.ok hR.br ha 1 with ⟨h1, h2, h3, h4, h5, h6⟩ | ⟨h1, h2, h3⟩
   · rw [if_neg (by rw [h1]; decide)]
     have hR2 : PlR K tb pl σ0 (n - c + 0) (K.next σ 1).1 := by
      rw [h2]; exact ⟨h5, h3, hR.x, hR.y, hR.len, hR.d⟩
     have a2 : (K.next σ 1).1.a = σ.a + 1 := by rw [h2]
     have hk0 : Cost K σ ((K.next σ 1).1, (0, 0)) 0 := by
      refine ⟨h5, ⟨1, h6, ?_⟩, by rw [a2]; omega, by rw [a2]; exact h4, fun h => ?_, ?_⟩
      · rw [h2]; unfold JK.pot; simp only; omega
      · rw [h3] at h; cases h
      · rw [h2]
     have hmin : 0 + min K.each c ≤ K.each := by omega
     have hmn : n - c + 0 + min K.each c ≤ n := by omega
     obtain ⟨g1, g2⟩ := byte_sim hK hT pl n σ0 hx hy hl (n - c) σ.a hi1 hi2 (by omega) (min K.each c) 0 (K.next σ 1).1 hmin hmn hR2 (by rw [a2]; exact h4)
     obtain ⟨q, hq⟩ : ∃ q, K.byteL (aG K.x.s σ.a) (σ.a : Int) (min K.each c) 0 (K.next σ 1).1 = q := ⟨_, rfl⟩
     rw [hq] at g1 g2 ⊢
     have hk1 : Cost K σ q (if q.2.1 = 0 then 0 else 1) := by
      have := Cost.trans hk0 h3 g1; rw [Nat.zero_add] at this; exact this
     by_cases hz : q.2.1 = 0
     · rw [if_pos hz]
       rw [if_pos hz] at hk1
       have hbr : q.1.l.br = false := by
        cases hb : q.1.l.br with
        | false => rfl
        | true => have := (hk1.br hb).1; omega
       rcases g2 hbr with ⟨f1, f2, f3⟩ | ⟨f1, f2⟩
       · have hE : n - (c - K.each) = n - c + 0 + min K.each c := by
          rcases each_is hK.dp with ⟨e1, e2⟩ | ⟨e1, e2⟩ <;> rw [e2] <;> omega
         obtain ⟨r1, r2⟩ := plainL_sim hK hT pl n σ0 hx hy hl m (c - K.each) q.1 (by omega) (by
          unfold JK.bytes at hm ⊢
          rcases each_is hK.dp with ⟨e1, e2⟩ | ⟨e1, e2⟩ <;> rw [e2] at hm ⊢ <;> omega) (fun hc2 => by
          rw [f3, a2]
          rcases each_is hK.dp with ⟨e1, e2⟩ | ⟨e1, e2⟩ <;> rw [e2] at hi1 hi2 hc2 ⊢ <;> omega) (by rw [hE]; exact f2) hk1.a1
         refine ⟨by have := Cost.trans (t := q.2) hk1 hbr r1; rw [Nat.zero_add] at this; exact this, fun hf => ?_⟩
         rcases r2 hf with ⟨s1, s2, s3⟩ | s1
         · exact Or.inl ⟨s1, s2, by rw [s3, f3, a2]; omega⟩
         · exact Or.inr s1
       · rw [f1] at hz; cases hz
     · rw [if_neg hz]
       rw [if_neg hz] at hk1
       refine ⟨by rw [if_neg hz]; exact hk1, fun hf => Or.inr ⟨hz, ?_⟩⟩
       rcases g2 hf with ⟨f1, f2, f3⟩ | ⟨f1, f2⟩
       · rw [f1] at hz; exact absurd rfl hz
       · rw [f2, f1]
   · rw [if_pos h1]
     refine ⟨?_, fun hf => Or.inr ?_⟩
     · have : (K.ft (K.next σ 1).1.l (K.next σ 1).1.a).1 ≠ 0 := ft_ne _ _ _
       show Cost K σ _ (if (K.ft (K.next σ 1).1.l (K.next σ 1).1.a).1 = 0 then 0 else 1)
       rw [if_neg this]; exact h2
     · obtain ⟨j1, j2⟩ := h3 hf
       rw [j2]
       refine ⟨by simp, ?_⟩
       obtain ⟨p, hp, hd⟩ := hR.d
       have step : ad K.x.s tb K.p.n K.n.dp pl K.x.e (n - c + 1) = .error (1, (K.x.e : Int)) := by
        rw [ad, hp]
        simp only
        rw [if_pos (show K.x.e ≤ pl + 2 + (n - c) / (8 / K.n.dp).toNat by show K.x.e ≤ pl + 2 + (n - c) / K.each; omega)]
       have := plainP_err K.x.s tb K.p.n K.n.dp pl K.x.e (n - c + 1) (c - 1) _ step
       rw [show n - c + 1 + (c - 1) = n by omega] at this
       exact this
theorem plain_sim {K : JK} {tb : List Value} (hK : KOk K tb) (hT : tb.length = 4 * K.p.n) (σ : JS) (pl n : Nat) (ho : σ.l.ok) (hb : σ.l.br = false) (ha : σ.a ≤ K.x.e) (hpl : σ.a = pl + 2) (hx : σ.x ≤ K.n.W) (hl : σ.d.length = 4 * (K.n.W * K.n.H)) (hn : 0 < n) :
 CmdSim K σ (K.plain σ n pl) (plain22 K.x.s tb K.p.n K.n.W K.n.H K.n.dp K.x.e ⟨σ.x, σ.y, pl, aY σ.d⟩ n) := by
 unfold JK.plain plain22
 by_cases hr : K.room σ n
 · rw [if_neg (by simpa using hr)]
   obtain ⟨hy, hx2⟩ := hr
   rw [if_neg (show ¬ (K.n.H ≤ σ.y ∨ K.n.W < σ.x + n) by omega)]
   have hR : PlR K tb pl σ (n - n) σ := by
    rw [Nat.sub_self]
    exact ⟨ho, hb, by omega, rfl, rfl, [], rfl, (putC_nil _ _).symm⟩
   obtain ⟨g1, g2⟩ := plainL_sim hK hT pl n σ hx2 hy hl (K.bytes n) n σ (Nat.le_refl _) rfl (fun _ => by rw [Nat.sub_self]; exact ⟨Nat.zero_mod _, by rw [Nat.zero_div]; omega⟩) hR ha
   obtain ⟨q, hq⟩ : ∃ q, K.plainL (K.bytes n) n σ = q := ⟨_, rfl⟩
   rw [hq] at g1 g2 ⊢
   have hsz : sizeP K.n.dp n = K.bytes n := rfl
   by_cases hz : q.2.1 = 0
   · rw [if_pos hz]
     rw [if_pos hz] at g1
     have hbr : q.1.l.br = false := by
      cases hb2 : q.1.l.br with
      | false => rfl
      | true => have := (g1.br hb2).1; omega
     rcases g2 hbr with ⟨f1, f2, f3⟩ | ⟨f1, f2⟩
     · obtain ⟨p, hp, hd⟩ := f2.d
       by_cases hodd : K.bytes n % 2 = 1
       · rw [if_pos hodd]
         rcases next_cost (K := K) g1.ok hbr g1.a1 1 with ⟨h1, h2, h3, h4, h5, h6⟩ | ⟨h1, h2, h3⟩
         · rw [if_neg (by rw [h1]; decide)]
           have a2 : (K.next q.1 1).1.a = q.1.a + 1 := by rw [h2]
           have hk0 : Cost K q.1 ((K.next q.1 1).1, (0, 0)) 0 := by
            refine ⟨h5, ⟨1, h6, ?_⟩, by rw [a2]; omega, by rw [a2]; exact h4, fun h => ?_, ?_⟩
            · rw [h2]; unfold JK.pot; simp only; omega
            · rw [h3] at h; cases h
            · rw [h2]
           refine ⟨by have := Cost.trans (t := q.2) g1 hbr hk0; exact this.mono (Nat.zero_le _), fun hf => ?_⟩
           show (match (match ad K.x.s tb K.p.n K.n.dp pl K.x.e n with | .error e => .error e | .ok p => if K.x.e < pl + 2 + sizeP K.n.dp n + sizeP K.n.dp n % 2 then .error (1, (K.x.e : Int)) else .ok ⟨σ.x + n, σ.y, pl + 2 + sizeP K.n.dp n + sizeP K.n.dp n % 2, putC (aY σ.d) (4 * ((K.n.H - 1 - σ.y) * K.n.W + σ.x)) p⟩ : E22 S22) with | .error e => _ | .ok τ => _)
           rw [hp]
           simp only
           rw [hsz, hodd, if_neg (by omega)]
           simp only
           refine ⟨trivial, by rw [h2]; exact f2.x, by rw [h2]; exact f2.y, by omega, by rw [h2]; exact hd⟩
         · rw [if_pos h1]
           refine ⟨?_, fun hf => ?_⟩
           · show Cost K σ _ (if (K.ft (K.next q.1 1).1.l (K.next q.1 1).1.a).1 = 0 then 0 else 1)
             rw [if_neg (ft_ne _ _ _)]
             have := Cost.trans (t := q.2) g1 hbr h2; rw [Nat.zero_add] at this; exact this
           · obtain ⟨j1, j2⟩ := h3 hf
             show (match (match ad K.x.s tb K.p.n K.n.dp pl K.x.e n with | .error e => .error e | .ok p => if K.x.e < pl + 2 + sizeP K.n.dp n + sizeP K.n.dp n % 2 then .error (1, (K.x.e : Int)) else .ok ⟨σ.x + n, σ.y, pl + 2 + sizeP K.n.dp n + sizeP K.n.dp n % 2, putC (aY σ.d) (4 * ((K.n.H - 1 - σ.y) * K.n.W + σ.x)) p⟩ : E22 S22) with | .error e => _ | .ok τ => _)
             rw [hp]
             simp only
             rw [hsz, hodd, if_pos (by omega)]
             simp only
             exact ⟨j2, by simp⟩
       · rw [if_neg hodd]
         have eqq : (q.1, ((0 : Int), (0 : Int))) = q := Prod.ext rfl f1.symm
         rw [eqq]
         refine ⟨g1.mono (Nat.zero_le _), fun hf => ?_⟩
         show (match (match ad K.x.s tb K.p.n K.n.dp pl K.x.e n with | .error e => .error e | .ok p => if K.x.e < pl + 2 + sizeP K.n.dp n + sizeP K.n.dp n % 2 then .error (1, (K.x.e : Int)) else .ok ⟨σ.x + n, σ.y, pl + 2 + sizeP K.n.dp n + sizeP K.n.dp n % 2, putC (aY σ.d) (4 * ((K.n.H - 1 - σ.y) * K.n.W + σ.x)) p⟩ : E22 S22) with | .error e => _ | .ok τ => _)
         have ha1 := g1.a1
         rw [hp]
         simp only
         rw [hsz, show K.bytes n % 2 = 0 by omega, if_neg (by omega)]
         simp only
         refine ⟨f1, f2.x, f2.y, by omega, hd⟩
     · exact absurd hz f1
   · rw [if_neg hz]
     rw [if_neg hz] at g1
     refine ⟨by rw [if_neg hz]; exact g1, fun hf => ?_⟩
     rcases g2 hf with ⟨f1, f2, f3⟩ | ⟨f1, f2⟩
     · rw [f1] at hz; exact absurd rfl hz
     · show (match (match ad K.x.s tb K.p.n K.n.dp pl K.x.e n with | .error e => .error e | .ok p => _ : E22 S22) with | .error e => _ | .ok τ => _)
       rw [f2]
       exact ⟨rfl, f1⟩
 · rw [if_pos (by simpa using hr)]
   have h2 : K.n.H ≤ σ.y ∨ K.n.W < σ.x + n := by unfold JK.room at hr; omega
   rw [if_pos h2]
   exact ⟨(Cost.stay ho hb ha _).mono (Nat.zero_le _), fun _ => ⟨rfl, by simp⟩⟩
theorem pot_le {K : JK} {σ : JS} {x y : Nat} {a : Nat} {l : Led} {d : List Int} (h : σ.y * K.n.W + σ.x ≤ y * K.n.W + x) : K.pot σ ≤ K.pot ⟨x, y, a, l, d⟩ := by
 unfold JK.pot; simp only; omega
theorem move_sim {K : JK} (σ σ1 : JS) (x y pl : Nat) (hc : Cost K σ (σ1, (0, 0)) 0) (hb : σ1.l.br = false) (hm : σ1.y * K.n.W + σ1.x ≤ y * K.n.W + x) :
 CmdSim K σ (K.move σ1 x y pl) (move22 K.n.W K.n.H x y σ1.a pl (aY σ1.d)) := by
 have hk : ∀ t, Cost K σ1 (⟨x, y, σ1.a, σ1.l, σ1.d⟩, t) 0 := fun t =>
  ⟨hc.ok, ⟨0, LW.refl _, by have := pot_le (K := K) (a := σ1.a) (l := σ1.l) (d := σ1.d) hm; simp only; omega⟩, Nat.le_refl _, hc.a1, (fun h => by simp only at h; rw [hb] at h; cases h), rfl⟩
 unfold JK.move move22 JK.ins
 by_cases h : K.n.W < x ∨ K.n.H < y
 · rw [if_pos h, if_pos h]
   exact ⟨(hc.trans hb (hk _)).mono (Nat.zero_le _), fun _ => ⟨rfl, by simp⟩⟩
 · rw [if_neg h, if_neg h]
   exact ⟨(hc.trans hb (hk _)).mono (Nat.zero_le _), fun _ => ⟨rfl, rfl, rfl, rfl, rfl⟩⟩
theorem cmd_sim {K : JK} {tb : List Value} (hK : KOk K tb) (hT : tb.length = 4 * K.p.n) (σ : JS) (pl : Nat) (ho : σ.l.ok) (hb : σ.l.br = false) (ha : σ.a ≤ K.x.e) (hpl : σ.a = pl + 2) (hx : σ.x ≤ K.n.W) (hl : σ.d.length = 4 * (K.n.W * K.n.H)) (hns : ¬ (aG K.x.s pl = 0 ∧ aG K.x.s (pl + 1) = 1)) :
 CmdSim K σ (K.cmd σ (aG K.x.s pl) (aG K.x.s (pl + 1)) pl) (step22 K.x.s tb K.p.n K.n.W K.n.H K.n.dp K.x.e ⟨σ.x, σ.y, pl, aY σ.d⟩) := by
 have v0 := (aS K.x.s pl).1
 have v1 := (aS K.x.s (pl + 1)).1
 have hstay := Cost.stay ho hb ha (0, 0)
 unfold JK.cmd step22
 by_cases h1 : 0 < aG K.x.s pl
 · rw [if_pos h1]
   show CmdSim K σ _ (if 0 < aG K.x.s pl then _ else _)
   rw [if_pos h1]
   exact run_sim hK σ pl _ ho hb ha hpl hx hl (by omega)
 rw [if_neg h1]
 show CmdSim K σ _ (if 0 < aG K.x.s pl then _ else _)
 rw [if_neg h1]
 have hn0 : aG K.x.s pl = 0 := by omega
 by_cases h2 : aG K.x.s (pl + 1) = 0
 · rw [if_pos h2]
   show CmdSim K σ _ (if 2 < aG K.x.s (pl + 1) then _ else _)
   rw [if_neg (by omega)]
   show CmdSim K σ _ (if aG K.x.s (pl + 1) = 0 then _ else _)
   rw [if_pos h2]
   show CmdSim K σ _ (move22 K.n.W K.n.H 0 (σ.y + 1) (pl + 2) pl (aY σ.d))
   rw [← hpl]
   exact move_sim σ σ 0 (σ.y + 1) pl hstay hb (by rw [Nat.add_mul]; omega)
 rw [if_neg h2]
 by_cases h3 : aG K.x.s (pl + 1) = 2
 · rw [if_pos h3]
   show CmdSim K σ _ (if 2 < aG K.x.s (pl + 1) then _ else _)
   rw [if_neg (by omega)]
   show CmdSim K σ _ (if aG K.x.s (pl + 1) = 0 then _ else _)
   rw [if_neg h2]
   unfold JK.leap
   rcases next_cost (K := K) ho hb ha 2 with ⟨j1, j2, j3, j4, j5, j6⟩ | ⟨j1, j2, j3⟩
   · rw [if_neg (by rw [j1]; decide)]
     show CmdSim K σ _ (if K.x.e < pl + 4 then _ else _)
     rw [if_neg (by omega)]
     have a2 : (K.next σ 2).1.a = σ.a + 2 := by rw [j2]
     have hk0 : Cost K σ ((K.next σ 2).1, (0, 0)) 0 := by
      refine ⟨j5, ⟨1, j6, ?_⟩, by rw [a2]; omega, by rw [a2]; exact j4, fun h => ?_, ?_⟩
      · rw [j2]; unfold JK.pot; simp only; omega
      · rw [j3] at h; cases h
      · rw [j2]
     have e0 : (K.next σ 2).1.d = σ.d ∧ (K.next σ 2).1.x = σ.x ∧ (K.next σ 2).1.y = σ.y := by rw [j2]; exact ⟨rfl, rfl, rfl⟩
     have := move_sim σ (K.next σ 2).1 (σ.x + (aG K.x.s σ.a).toNat) (σ.y + (aG K.x.s (σ.a + 1)).toNat) pl hk0 j3 (by
      rw [e0.2.1, e0.2.2, Nat.add_mul]; omega)
     rw [a2, e0.1] at this
     show CmdSim K σ _ (move22 K.n.W K.n.H (σ.x + (aG K.x.s (pl + 2)).toNat) (σ.y + (aG K.x.s (pl + 3)).toNat) (pl + 4) pl (aY σ.d))
     rw [show pl + 4 = σ.a + 2 by omega, show pl + 2 = σ.a by omega, show pl + 3 = σ.a + 1 by omega]
     exact this
   · rw [if_pos j1]
     refine ⟨?_, fun hf => ?_⟩
     · show Cost K σ _ (if (K.ft (K.next σ 2).1.l (K.next σ 2).1.a).1 = 0 then 0 else 1)
       rw [if_neg (ft_ne _ _ _)]; exact j2
     · obtain ⟨k1, k2⟩ := j3 hf
       show (match (if K.x.e < pl + 4 then .error (1, (K.x.e : Int)) else _ : E22 S22) with | .error e => _ | .ok τ => _)
       rw [if_pos (by omega)]
       exact ⟨k2, by simp⟩
 · rw [if_neg h3]
   show CmdSim K σ _ (if 2 < aG K.x.s (pl + 1) then _ else _)
   rw [if_pos (by omega)]
   exact plain_sim hK hT σ pl _ ho hb ha hpl hx hl (by omega)
structure ReadSim (K : JK) (σ : JS) (q : JS × (Int × Int)) (ref : E22 (List Value)) : Prop where
 cost : Cost K σ q 1
 sim : q.1.l.br = false → match ref with
  | .error e => q.2 = e ∧ e.1 ≠ 0
  | .ok L => q.2 = (0, 0) ∧ aY q.1.d = L
theorem read_sim {K : JK} {tb : List Value} (hK : KOk K tb) (hT : tb.length = 4 * K.p.n) (hT2 : ∀ u ∈ tb, u.oneCell' = true) :
 ∀ (f : Nat) (σ : JS), σ.l.ok → σ.l.br = false → σ.a ≤ K.x.e → K.x.e < σ.a + f → σ.x ≤ K.n.W → σ.y ≤ K.n.H → σ.d.length = 4 * (K.n.W * K.n.H) →
 ReadSim K σ (K.read f σ) (rle22 K.x.s tb K.p.n K.n.W K.n.H K.n.dp K.x.e f ⟨σ.x, σ.y, σ.a, aY σ.d⟩)
 | 0, σ, ho, hb, ha, hf, hx, hy, hl => by omega
 | f + 1, σ, ho, hb, ha, hf, hx, hy, hl => by
   rw [JK.read, rle22]
   rcases next_cost (K := K) ho hb ha 2 with ⟨j1, j2, j3, j4, j5, j6⟩ | ⟨j1, j2, j3⟩
   · rw [if_neg (by rw [j1]; decide)]
     have a2 : (K.next σ 2).1.a = σ.a + 2 := by rw [j2]
     have hk0 : ∀ t, Cost K σ ((K.next σ 2).1, t) 0 := fun t => by
      refine ⟨j5, ⟨1, j6, ?_⟩, by rw [a2]; omega, by rw [a2]; exact j4, fun h => ?_, ?_⟩
      · rw [j2]; unfold JK.pot; simp only; omega
      · rw [j3] at h; cases h
      · rw [j2]
     have e0 : (K.next σ 2).1.d = σ.d ∧ (K.next σ 2).1.x = σ.x ∧ (K.next σ 2).1.y = σ.y := by rw [j2]; exact ⟨rfl, rfl, rfl⟩
     show ReadSim K σ _ (if K.x.e < σ.a + 2 then _ else if aG K.x.s σ.a = 0 ∧ aG K.x.s (σ.a + 1) = 1 then .ok (aY σ.d) else _)
     rw [if_neg (show ¬ K.x.e < σ.a + 2 by omega)]
     by_cases hs : aG K.x.s σ.a = 0 ∧ aG K.x.s (σ.a + 1) = 1
     · rw [if_pos hs, if_pos hs]
       exact ⟨(hk0 _).mono (Nat.zero_le _), fun _ => ⟨rfl, by rw [e0.1]⟩⟩
     · rw [if_neg hs, if_neg hs]
       have hc := cmd_sim hK hT (K.next σ 2).1 σ.a j5 j3 (by rw [a2]; exact j4) a2 (by rw [e0.2.1]; exact hx) (by rw [e0.1]; exact hl) hs
       rw [e0.1, e0.2.1, e0.2.2] at hc
       have hgood : Good22 K.n.W K.n.H K.x.e ⟨σ.x, σ.y, σ.a, aY σ.d⟩ := ⟨hx, hy, ha, by show (aY σ.d).length = _; unfold aY; rw [List.length_map]; exact hl, fun u hu => by
        unfold aY at hu; obtain ⟨z, _, rfl⟩ := List.mem_map.1 hu; rfl⟩
       have hst := fun τ => step22_good (s := K.x.s) (tb := tb) (M := K.p.n) (d := K.n.dp) (τ := τ) hT hT2 hgood (show σ.a + 2 ≤ K.x.e by omega)
       obtain ⟨q, hq⟩ : ∃ q, K.cmd (K.next σ 2).1 (aG K.x.s σ.a) (aG K.x.s (σ.a + 1)) σ.a = q := ⟨_, rfl⟩
       rw [hq] at hc ⊢
       have hk1 : Cost K σ q (if q.2.1 = 0 then 0 else 1) := by
        have := Cost.trans (hk0 (0, 0)) j3 hc.cost; rw [Nat.zero_add] at this; exact this
       obtain ⟨ref, href⟩ : ∃ r, step22 K.x.s tb K.p.n K.n.W K.n.H K.n.dp K.x.e ⟨σ.x, σ.y, σ.a, aY σ.d⟩ = r := ⟨_, rfl⟩
       have hsim := hc.sim
       rw [href] at hsim hst ⊢
       by_cases hz : q.2.1 = 0
       · rw [if_pos hz]
         rw [if_pos hz] at hk1
         have hbr : q.1.l.br = false := by
          cases hb2 : q.1.l.br with
          | false => rfl
          | true => have := (hk1.br hb2).1; omega
         have hs2 := hsim hbr
         cases ref with
         | error e => simp only at hs2; rw [hs2.1] at hz; exact absurd hz hs2.2
         | ok τ =>
           simp only at hs2 ⊢
           obtain ⟨s1, s2, s3, s4, s5⟩ := hs2
           obtain ⟨⟨t1, t2, t3, t4, t5⟩, t6⟩ := hst τ rfl
           have t6 : σ.a < τ.pl := t6
           have ih := read_sim hK hT hT2 f q.1 hk1.ok hbr hk1.a1 (by omega) (by rw [s2]; exact t1) (by rw [s3]; exact t2) (by rw [hk1.len]; exact hl)
           rw [s2, s3, s4, s5] at ih
           exact ⟨by have := Cost.trans (t := q.2) hk1 hbr ih.cost; rw [Nat.zero_add] at this; exact this, ih.sim⟩
       · rw [if_neg hz]
         rw [if_neg hz] at hk1
         refine ⟨hk1, fun hf => ?_⟩
         have hs2 := hsim hf
         cases ref with
         | error e => exact hs2
         | ok τ => simp only at hs2; rw [hs2.1] at hz; exact absurd rfl hz
   · rw [if_pos j1]
     refine ⟨j2, fun hf => ?_⟩
     obtain ⟨k1, k2⟩ := j3 hf
     show (match (if K.x.e < σ.a + 2 then .error (1, (K.x.e : Int)) else _ : E22 (List Value)) with | .error e => _ | .ok L => _)
     rw [if_pos (by omega)]
     exact ⟨k2, by simp⟩
end Go.Proofs.YtfchnibjjokmbaaGreat

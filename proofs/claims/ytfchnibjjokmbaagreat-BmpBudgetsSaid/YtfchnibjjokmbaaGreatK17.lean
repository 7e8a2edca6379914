/- Parts. -/
import Derived.Test.YtfchnibjjokmbaaGreatK16
set_option linter.all false
set_option maxRecDepth 100000
set_option maxHeartbeats 16000000
open Go.Value renaming int → J, pointer → Y
open Go.IntKind renaming i64 → I, u8 → U
namespace Go.Proofs.YtfchnibjjokmbaaGreat
open Go.RowKit
def dpOk (n : Nat) : Prop := n = 1 ∨ n = 4 ∨ n = 8 ∨ n = 16 ∨ n = 24 ∨ n = 32
def pxFn (n : Nat) : Nat := if n = 16 ∨ n = 32 then 173 else if n = 24 then 174 else 175
def pxF (N n : Nat) : Value := .func (.func (pxFn n)) #[Y (some ⟨N, 0, none⟩)] #[]
theorem qreader_any (N : Nat) (K : QK) (σ : QS) (w : World) (h : QAt w N K σ) (hd : dpOk K.dp) : Calls Tryz.prog 132 #[Y (some ⟨N, 0, none⟩)] w fun e w' => e = .returned (pxF N K.dp) ∧ w = w' := by
 obtain ⟨n, hn⟩ : ∃ n, K.dp = n := ⟨_, rfl⟩
 have k6 := h.cell 6 (J I n) (by rw [← hn]; rfl)
 rw [hn] at hd ⊢
 clear h hn
 rcases hd with rfl | rfl | rfl | rfl | rfl | rfl
 all_goals
  go_enter Tryz.func132, Tryz.ntmps132
  go_wp2_with fail
  go_ret
  exact ⟨rfl, rfl⟩
def QK.pix (K : QK) (σ : QS) : QS × (C4 × (Int × Int)) := if K.dp = 16 ∨ K.dp = 32 then K.word σ else if K.dp = 24 then K.thr σ else K.num σ
def QK.okl (K : QK) (σ : QS) : Prop := σ.left % K.dp = 0
theorem qpix_any (N : Nat) (K : QK) (σ : QS) (w : World) (h : QAt w N K σ) (hd : dpOk K.dp) (hk : QOk K) (hp : K.dp ≤ 8 → K.hp = true) (hl : K.okl σ) : Calls Tryz.prog (pxFn K.dp) #[Y (some ⟨N, 0, none⟩)] w fun e w' =>
 e = .returned (pxv K.f (K.pix σ).2) ∧ QAt w' N K (K.pix σ).1 ∧ Chg (qS K) w w' := by
 unfold pxFn QK.pix
 by_cases h1 : K.dp = 16 ∨ K.dp = 32
 · rw [if_pos h1, if_pos h1]; exact qword_any N K σ w h h1 hk
 · rw [if_neg h1, if_neg h1]
   by_cases h2 : K.dp = 24
   · rw [if_pos h2, if_pos h2]; exact qthr_any N K σ w h
   · rw [if_neg h2, if_neg h2]
     have h3 : K.dp = 1 ∨ K.dp = 4 ∨ K.dp = 8 := by unfold dpOk at hd; omega
     have h8 := h.l8
     unfold QK.okl at hl
     exact qnum_any N K σ w h (by omega) (by omega) (by rcases h3 with e | e | e <;> rw [e] at hl ⊢ <;> omega) (hp (by omega))
theorem qnext_left (K : QK) (σ : QS) (n : Nat) : (K.next σ n).1.left = σ.left ∧ (K.next σ n).1.d = σ.d := by
 unfold QK.next; split <;> exact ⟨rfl, rfl⟩
theorem qpix_left (K : QK) (σ : QS) (hd : dpOk K.dp) (hl : K.okl σ) (h8 : σ.left ≤ 8) : K.okl (K.pix σ).1 ∧ (K.pix σ).1.d = σ.d := by
 unfold QK.okl QK.pix at *
 by_cases h1 : K.dp = 16 ∨ K.dp = 32
 · rw [if_pos h1]; unfold QK.word QK.wordB
   obtain ⟨a, b⟩ := qnext_left K σ K.wz
   split <;> exact ⟨by rw [a]; exact hl, b⟩
 · rw [if_neg h1]
   by_cases h2 : K.dp = 24
   · rw [if_pos h2]; unfold QK.thr QK.thrB
     obtain ⟨a, b⟩ := qnext_left K σ 3
     split <;> exact ⟨by rw [a]; exact hl, b⟩
   · rw [if_neg h2]
     have h3 : K.dp = 1 ∨ K.dp = 4 ∨ K.dp = 8 := by unfold dpOk at hd; omega
     have hb : (K.bits σ).1.left % K.dp = 0 ∧ (K.bits σ).1.d = σ.d := by
      unfold QK.bits
      obtain ⟨a, b⟩ := qnext_left K σ 1
      by_cases hz : σ.left = 0
      · rw [if_pos hz]
        split
        · exact ⟨by show (8 - K.dp) % K.dp = 0; rcases h3 with e | e | e <;> rw [e], rfl⟩
        · exact ⟨by rw [a]; exact hl, b⟩
      · rw [if_neg hz]
        exact ⟨by show (σ.left - K.dp) % K.dp = 0; rcases h3 with e | e | e <;> rw [e] at hl ⊢ <;> omega, rfl⟩
     unfold QK.num
     cases (K.bits σ).2 with
     | none => exact hb
     | some v => unfold QK.nmB; simp only; split <;> exact hb
def c4in (c : C4) : Prop := (0 ≤ c.1 ∧ c.1 < 256) ∧ (0 ≤ c.2.1 ∧ c.2.1 < 256) ∧ (0 ≤ c.2.2.1 ∧ c.2.2.1 < 256) ∧ (0 ≤ c.2.2.2 ∧ c.2.2.2 < 256)
theorem c4z_in : c4in c4z := ⟨⟨by decide, by decide⟩, ⟨by decide, by decide⟩, ⟨by decide, by decide⟩, ⟨by decide, by decide⟩⟩
theorem chI_bd (s b v n : Int) (hk : okM s b) (h0 : 0 ≤ n) (h1 : n < 256) : 0 ≤ chI s b v n ∧ chI s b v n < 256 := by
 unfold chI
 by_cases hb : b = 0
 · rw [if_pos hb]; exact ⟨h0, h1⟩
 · rw [if_neg hb]
   have hr : rightB s b = true := by rcases hk with ⟨-, h⟩ | h; exact absurd h hb; exact h
   have hb1 : 1 ≤ b := by unfold rightB at hr; rw [decide_eq_true_iff] at hr; omega
   obtain ⟨k, hk⟩ : ∃ k : Nat, b.toNat = k + 1 := ⟨b.toNat - 1, by omega⟩
   have hp : (2 : Int) ≤ 2 ^ b.toNat := by
    rw [hk, Int.pow_succ]
    have : (0 : Int) < 2 ^ k := Int.pow_pos (by decide)
    omega
   have hm0 := Int.emod_nonneg (v / 2 ^ s.toNat) (b := 2 ^ b.toNat) (by omega)
   have hm1 := Int.emod_lt_of_pos (v / 2 ^ s.toNat) (b := 2 ^ b.toNat) (by omega)
   have := mxI_bd (v / 2 ^ s.toNat % 2 ^ b.toNat) (2 ^ b.toNat - 1) hm0 (by omega) (by omega)
   omega
theorem qpix_col (K : QK) (σ : QS) (hk : QOk K) : c4in (K.pix σ).2.1 := by
 unfold QK.pix
 split
 · unfold QK.word QK.wordB
   split
   · exact ⟨chI_bd _ _ _ _ hk.k0 (by decide) (by decide), chI_bd _ _ _ _ hk.k1 (by decide) (by decide), chI_bd _ _ _ _ hk.k2 (by decide) (by decide), chI_bd _ _ _ _ hk.k3 (by decide) (by decide)⟩
   · exact c4z_in
 · split
   · unfold QK.thr QK.thrB
     split
     · exact ⟨aS _ _, aS _ _, aS _ _, ⟨by show (0 : Int) ≤ 255; decide, by show (255 : Int) < 256; decide⟩⟩
     · exact c4z_in
   · unfold QK.num
     cases (K.bits σ).2 with
     | none => exact c4z_in
     | some v =>
       unfold QK.nmB
       simp only
       split
       · exact ⟨aS _ _, aS _ _, aS _ _, aS _ _⟩
       · exact c4z_in
def QK.putC (K : QK) (σ : QS) (x y : Nat) (c : C4) : QS × Bool := K.put σ x y c.1 c.2.1 c.2.2.1 c.2.2.2
theorem qputC_any (N : Nat) (K : QK) (σ : QS) (x y : Nat) (c : C4) (w : World) (h : QAt w N K σ) (hx : x < K.r.w) (hy : y < K.r.h) (hc : c4in c) : Calls Tryz.prog 133 #[Y (some ⟨K.R, 0, none⟩), J I x, J I y, .agg (c4v c).toArray] w fun e w' =>
 e = .returned (.bool (K.putC σ x y c).2) ∧ QAt w' N K (K.putC σ x y c).1 ∧ Chg (qS K) w w' := qput_any N K σ x y _ _ _ _ w h hx hy hc.1 hc.2.1 hc.2.2.1 hc.2.2.2
def QK.row (K : QK) (y : Nat) : Nat → Nat → QS → QS × (Int × Int)
 | 0, x, σ => (σ, (0, 0))
 | c + 1, x, σ => if (K.pix σ).2.2.1 = 0 then
    (if (K.putC (K.pix σ).1 x y (K.pix σ).2.1).2 = true then K.row y c (x + 1) (K.putC (K.pix σ).1 x y (K.pix σ).2.1).1 else ((K.putC (K.pix σ).1 x y (K.pix σ).2.1).1, K.ft (K.putC (K.pix σ).1 x y (K.pix σ).2.1).1.l (K.putC (K.pix σ).1 x y (K.pix σ).2.1).1.a))
   else ((K.pix σ).1, (K.pix σ).2.2)
def QS.whole (σ : QS) : QS := ⟨σ.now, 0, σ.a, σ.l, σ.d⟩
def QK.pad (K : QK) (n : Nat) (σ : QS) : QS × (Int × Int) := if (K.next σ.whole n).2.2 = true then ((K.next σ.whole n).1, (0, 0)) else ((K.next σ.whole n).1, K.ft (K.next σ.whole n).1.l (K.next σ.whole n).1.a)
def rowY (top : Bool) (H k : Nat) : Nat := if top = true then k else H - 1 - k
def QK.rows (K : QK) (W H : Nat) (top : Bool) (pd : Nat) : Nat → Nat → QS → QS × (Int × Int)
 | 0, k, σ => (σ, (0, 0))
 | m + 1, k, σ => if (K.row (rowY top H k) W 0 σ).2.1 = 0 then
    (if (K.pad pd (K.row (rowY top H k) W 0 σ).1).2.1 = 0 then K.rows W H top pd m (k + 1) (K.pad pd (K.row (rowY top H k) W 0 σ).1).1 else K.pad pd (K.row (rowY top H k) W 0 σ).1)
   else K.row (rowY top H k) W 0 σ
theorem qft_ne (K : QK) (l : Led) (a : Nat) : (K.ft l a).1 ≠ 0 := by unfold QK.ft; split <;> (intro h; cases h)
theorem jof_any (N : Nat) (K : JK) (σ : JS) (e : Int) (w : World) (h : JAt w N K σ) : Calls Tryz.prog 200 #[Y (some ⟨K.n.P, 0, none⟩), J I e] w fun e' w' =>
 e' = .returned (.tuple #[if K.p.has e = true then colS4 (K.p.ent e.toNat) else colZ4, .bool (K.p.has e)]) ∧ Chg (fun _ => False) w w' := pof_any K.n.P K.p e w h.pal
theorem jputE_any (N : Nat) (K : JK) (σ : JS) (e : Int) (w : World) (h : JAt w N K σ) (hx : σ.x < K.n.W) (hy : σ.y < K.n.H) : Calls Tryz.prog 188 #[Y (some ⟨N, 0, none⟩), .agg (List.toArray [J U (aG (K.p.ent e.toNat) 0), J U (aG (K.p.ent e.toNat) 1), J U (aG (K.p.ent e.toNat) 2), J U (aG (K.p.ent e.toNat) 3)])] w fun e' w' =>
 e' = .returned (ftv K.n.f (K.putE σ e).2) ∧ JAt w' N K (K.putE σ e).1 ∧ Chg (jS N K) w w' :=
 jput_any N K σ _ _ _ _ w h hx hy (aS _ _) (aS _ _) (aS _ _) (aS _ _)
theorem jbyte_any (N : Nat) (K : JK) (σ : JS) (v : Int) (c : Nat) (pl : Int) (w : World) (h : JAt w N K σ) (hd : K.n.dp = 8 ∨ K.n.dp = 4) (hv : 0 ≤ v ∧ v < 256) (hc : c ≤ 2) (h81 : K.n.dp = 8 → c ≤ 1) (hx : σ.x + c ≤ K.n.W) (hy : σ.y < K.n.H) :
 Calls Tryz.prog 189 #[Y (some ⟨N, 0, none⟩), J I v, J I c, J I pl] w fun e w' => e = .returned (ftv K.n.f (K.byteL v pl c 0 σ).2) ∧ JAt w' N K (K.byteL v pl c 0 σ).1 ∧ Chg (jS N K) w w' := by
 have hC := (Chg.refl (fun _ => False) w).alloc (.cells #[J I 0, J I 0, J I 0] 31)
 have OF := Hi (aA w #[J I 0, J I 0, J I 0] 31)
 have JA := Hi (h.keep hC)
 have CH := Hi (hC.mono (S' := jS N K) (fun _ _ h => h.elim))
 have JL := Hi h.jlt
 obtain ⟨d, hd0⟩ : ∃ d, w.heap.size = d := ⟨_, rfl⟩
 have HDe := Hi hd0
 rw [hd0] at OF JL
 obtain ⟨R, hR⟩ : ∃ R, K.byteL v pl c 0 σ = R := ⟨_, rfl⟩
 have HRE := Hi hR
 rw [hR]
 obtain ⟨f, hf⟩ : ∃ f, K.n.f = f := ⟨_, rfl⟩
 have HF := Hi hf
 rw [hf]
 obtain ⟨dp, hdp⟩ : ∃ dp, K.n.dp = dp := ⟨_, rfl⟩
 have HDP := Hi hdp
 rw [hdp] at hd h81
 have HD := Hi hd
 have H81 := Hi h81
 have HX := Hi hx
 have HY := Hi hy
 have HWR := Hi (fun w0 (τ : JS) (h0 : JAt w0 N K τ) => (jwrong_any N K τ pl w0 h0).mono (R' := fun e w' => e = .returned (.agg (fc f (2, pl)).toArray) ∧ Below w0.heap.size w0 w') fun e w' hh => by rw [hf] at hh; exact hh)
 clear h hC hR hf hdp hd h81 hx hy
 go_enter Tryz.func189, Tryz.ntmps189
 go_wp2_with fail
 clear hd0
 generalize World.alloc _ _ = wa at OF JA CH ⊢
 go_loopw [15] (fun cc wr => ∃ (i : Nat) (τ : JS), i ≤ c ∧ cc = J I i ∧ K.byteL v pl (c - i) i τ = R ∧ JAt wr N K τ ∧ Obj1 wr d #[J I 0, J I 0, J I 0] 31 ∧ Chg (jS N K) w wr ∧ τ.x + (c - i) ≤ K.n.W ∧ τ.y < K.n.H) (fun cc _ => c - (intOf cc).toNat)
 case atStart => exact ⟨0, σ, Nat.zero_le _, rfl, HRE.out, JA.out, OF.out, CH.out, HX.out, HY.out⟩
 case round =>
  obtain ⟨i, τ, hi, rfl, hrl, hja, hof, hch, hx1, hy1⟩ := hrel
  have HRL := Hi hrl
  have JA := Hi hja
  have OF := Hi hof
  have CH := Hi hch
  have HX := Hi hx1
  have HY := Hi hy1
  clear hrl hja hof hch hx1 hy1
  by_cases hlt : i < c
  rotate_left
  · obtain rfl : i = c := by omega
    have E := Hi (show R = (τ, (0, 0)) by rw [← HRL.out, Nat.sub_self]; rfl)
    go_wp2_with (refine so 31 3 d [J I 0, J I 0, J I 0] OF.out ?_; intro ws hst hO; have OF := Hi hO; have JA := Hi (JA.out.stored JL.out hst (Nat.le_refl _)); have CH := Hi (Stored.chgS hst CH.out (Or.inr (by have := HDe.out; omega))); clear hst hO)
    refine bodyPost_ret (v := .agg (List.toArray [J I 0, J I 0, J I 0])) ?_ rfl ⟨by rw [E.out]; rfl, by rw [E.out]; exact JA.out, CH.out⟩
    exact aD Tryz.results189 _ _ _ [J I 0, J I 0, J I 0] _ rfl OF.out.range0 Tryz.underlying31 rfl (by kernel_rfl)
  obtain ⟨e, he⟩ : ∃ e, aT v dp i = e := ⟨_, rfl⟩
  have HE := Hi he
  have k5 := JA.out.cell 5 (J I dp) (by rw [← HDP.out]; rfl)
  clear he
  go_upto_if 24 with (fail)
  go_cut [10] from 25 to 30 (fun cc wx => wx = wr ∧ cc = J I e)
  case first =>
   have k5 := JA.out.cell 5 (J I dp) (by rw [← HDP.out]; rfl)
   rcases HD.out with e8 | e4
   · have hb : (dp == 4) = false := by rw [e8]; rfl
     have HEV := Hi (show e = v by rw [← HE.out, e8]; rfl)
     clear e8
     go_wp2_with fail
     go_meet
     exact ⟨rfl, by rw [HEV.out]⟩
   · have hb : (dp == 4) = true := by rw [e4]; rfl
     have r0 : bits .and .i64 (v / 16) 15 = v / 16 := (i64_and_mask (v / 16) 4 (by decide)).trans (by omega)
     have r1 : bits .and .i64 v 15 = v % 16 := i64_and_mask v 4 (by decide)
     rcases (show i = 0 ∨ i = 1 by omega) with rfl | rfl
     · have HEV := Hi (show e = v / 16 by rw [← HE.out, e4]; rfl)
       clear e4
       have hv0 := hv.1
       go_wp2_with fail
       go_meet
       exact ⟨rfl, by rw [HEV.out]⟩
     · have HEV := Hi (show e = v % 16 by rw [← HE.out, e4]; rfl)
       clear e4
       have hv0 := hv.1
       go_wp2_with fail
       go_meet
       exact ⟨rfl, by rw [HEV.out]⟩
  case rest =>
   obtain ⟨rfl, rfl⟩ := hcut
   have HSUB := Hi (show c - i = (c - (i + 1)) + 1 by omega)
   have k17 := JA.out.cell 17 (Y (some ⟨K.n.P, 0, none⟩)) rfl
   cases hh : K.p.has e with
   | false =>
     have HOF := Hi (fun w0 (h0 : JAt w0 N K τ) => (jof_any N K τ e w0 h0).mono (R' := fun e' w' => e' = .returned (.tuple #[.agg #[J U 0, J U 0, J U 0, J U 0], .bool false]) ∧ Chg (fun _ => False) w0 w') fun e' w' hq => by rw [hh, if_neg (by decide)] at hq; unfold colZ4 at hq; exact hq)
     have E := Hi (show R = (τ, (2, pl)) by rw [← HRL.out, HSUB.out, JK.byteL, HDP.out, HE.out, if_pos hh])
     clear hh
     go_upto_region 8 with (fail)
     with_reducible refine (HOF.out _ JA.out).mono ?_
     rintro e w6 ⟨rfl, hc⟩
     have JA := Hi (JA.out.keep hc)
     have OF := Hi (hc.obj OF.out (fun h => h))
     have CH := Hi (CH.out.trans (hc.mono (fun _ _ h => h.elim)))
     clear hc
     clear k17
     obtain ⟨dC, hdC⟩ : ∃ b, w6.heap.size = b := ⟨_, rfl⟩
     have lzdC := OF.out.lt
     have O4 := Hi (aA w6 #[J U 0, J U 0, J U 0, J U 0] 104)
     rw [hdC] at O4 lzdC
     have JA := Hi (JA.out.alloc (.cells #[J U 0, J U 0, J U 0, J U 0] 104))
     have CH := Hi (CH.out.alloc (.cells #[J U 0, J U 0, J U 0, J U 0] 104))
     have OF := Hi (OF.out.alloc (.cells #[J U 0, J U 0, J U 0, J U 0] 104))
     go_upto_region 8 with (first
      | (refine so 104 4 (dC) [J U 0, J U 0, J U 0, J U 0] O4.out ?_; intro ws hst hO; have O4 := Hi hO; have JA := Hi (JA.out.stored JL.out hst (by omega)); have OF := Hi (hst.oth OF.out (by omega)); have CH := Hi (Stored.chgS hst CH.out (Or.inr (by have := HDe.out; omega))); clear hst hO))
     clear hdC
     go_wp2_with (first
      | ((go_at_call 186; (with_reducible refine (HWR.out _ _ JA.out).mono ?_); rintro e w7 ⟨rfl, hb⟩); have JA := Hi (JA.out.below hb); have OF := Hi (OF.out.below hb OF.out.lt); have O4 := Hi (O4.out.below hb O4.out.lt); have CH := Hi (CH.out.trans (aB hb _)); clear hb)
      | (refine so 31 3 (d) (fc f (2, pl)) OF.out ?_; intro ws hst hO; have OF := Hi hO; have JA := Hi (JA.out.stored JL.out hst (by omega)); have O4 := Hi (hst.oth O4.out (by omega)); have CH := Hi (Stored.chgS hst CH.out (Or.inr (by have := HDe.out; omega))); clear hst hO))
     refine bodyPost_ret (v := .agg (fc f (2, pl)).toArray) ?_ rfl ⟨by rw [E.out]; rfl, by rw [E.out]; exact JA.out, CH.out⟩
     exact aD Tryz.results189 _ _ _ (fc f (2, pl)) _ rfl OF.out.range0 Tryz.underlying31 rfl (by kernel_rfl)
   | true =>
     obtain ⟨y0, hy0⟩ : ∃ y, aG (K.p.ent e.toNat) 0 = y := ⟨_, rfl⟩
     obtain ⟨y1, hy1⟩ : ∃ y, aG (K.p.ent e.toNat) 1 = y := ⟨_, rfl⟩
     obtain ⟨y2, hy2⟩ : ∃ y, aG (K.p.ent e.toNat) 2 = y := ⟨_, rfl⟩
     obtain ⟨y3, hy3⟩ : ∃ y, aG (K.p.ent e.toNat) 3 = y := ⟨_, rfl⟩
     have HOF := Hi (fun w0 (h0 : JAt w0 N K τ) => (jof_any N K τ e w0 h0).mono (R' := fun e' w' => e' = .returned (.tuple #[.agg #[J U y0, J U y1, J U y2, J U y3], .bool true]) ∧ Chg (fun _ => False) w0 w') fun e' w' hq => by rw [hh, if_pos rfl] at hq; unfold colS4 at hq; rw [hy0, hy1, hy2, hy3] at hq; exact hq)
     have HPT := Hi (fun w0 (h0 : JAt w0 N K τ) => (jputE_any N K τ e w0 h0 (by have := HX.out; omega) HY.out).mono (R' := fun e' w' => e' = .returned (.agg (fc f (K.putE τ e).2).toArray) ∧ JAt w' N K (K.putE τ e).1 ∧ Chg (jS N K) w0 w') fun e' w' hq => by rw [HF.out] at hq; exact hq)
     rw [hy0, hy1, hy2, hy3] at HPT
     obtain ⟨Q, hQ⟩ : ∃ Q, K.putE τ e = Q := ⟨_, rfl⟩
     rw [hQ] at HPT
     have HQ := Hi hQ
     have EE := Hi (show R = if Q.2.1 = 0 then K.byteL v pl (c - (i + 1)) (i + 1) Q.1 else Q by rw [← HRL.out, HSUB.out, JK.byteL, HDP.out, HE.out, if_neg (by rw [hh]; decide), hQ])
     clear hh hy0 hy1 hy2 hy3 hQ
     go_upto_region 8 with (fail)
     with_reducible refine (HOF.out _ JA.out).mono ?_
     rintro e w6 ⟨rfl, hc⟩
     have JA := Hi (JA.out.keep hc)
     have OF := Hi (hc.obj OF.out (fun h => h))
     have CH := Hi (CH.out.trans (hc.mono (fun _ _ h => h.elim)))
     clear hc
     clear k17
     obtain ⟨dC, hdC⟩ : ∃ b, w6.heap.size = b := ⟨_, rfl⟩
     have lzdC := OF.out.lt
     have O4 := Hi (aA w6 #[J U 0, J U 0, J U 0, J U 0] 104)
     rw [hdC] at O4 lzdC
     have JA := Hi (JA.out.alloc (.cells #[J U 0, J U 0, J U 0, J U 0] 104))
     have CH := Hi (CH.out.alloc (.cells #[J U 0, J U 0, J U 0, J U 0] 104))
     have OF := Hi (OF.out.alloc (.cells #[J U 0, J U 0, J U 0, J U 0] 104))
     go_upto_region 8 with (first
      | (refine so 104 4 (dC) [J U y0, J U y1, J U y2, J U y3] O4.out ?_; intro ws hst hO; have O4 := Hi hO; have JA := Hi (JA.out.stored JL.out hst (by omega)); have OF := Hi (hst.oth OF.out (by omega)); have CH := Hi (Stored.chgS hst CH.out (Or.inr (by have := HDe.out; omega))); clear hst hO))
     clear hdC
     go_upto_region 10 with (fail)
     go_upto_region 11 with (first
      | (refine aL (by kernel_rfl) 104 4 _ rfl (dC) [J U y0, J U y1, J U y2, J U y3] rfl rfl O4.out Tryz.underlying104 rfl (by kernel_rfl) ?_; intro _))
     with_reducible refine (HPT.out _ JA.out).mono ?_
     rintro e w8 ⟨rfl, hj1, hc1⟩
     have JA := Hi hj1
     have OF := Hi (hc1.obj OF.out (not_jS JL.out (by omega)))
     have O4 := Hi (hc1.obj O4.out (not_jS JL.out (by omega)))
     have CH := Hi (CH.out.trans hc1)
     clear hj1 hc1
     obtain ⟨dF, hdF⟩ : ∃ b, w8.heap.size = b := ⟨_, rfl⟩
     have lzdF := O4.out.lt
     have O5 := Hi (aA w8 #[J I 0, J I 0, J I 0] 31)
     rw [hdF] at O5 lzdF
     have JA := Hi (JA.out.alloc (.cells #[J I 0, J I 0, J I 0] 31))
     have CH := Hi (CH.out.alloc (.cells #[J I 0, J I 0, J I 0] 31))
     have OF := Hi (OF.out.alloc (.cells #[J I 0, J I 0, J I 0] 31))
     have O4 := Hi (O4.out.alloc (.cells #[J I 0, J I 0, J I 0] 31))
     go_upto_region 11 with (first
      | (refine so 31 3 (dF) (fc f Q.2) O5.out ?_; intro ws hst hO; have O5 := Hi hO; have JA := Hi (JA.out.stored JL.out hst (by omega)); have OF := Hi (hst.oth OF.out (by omega)); have O4 := Hi (hst.oth O4.out (by omega)); have CH := Hi (Stored.chgS hst CH.out (Or.inr (by have := HDe.out; omega))); clear hst hO))
     clear hdF
     obtain ⟨z, hz⟩ : ∃ z, Q.2.1 = z := ⟨_, rfl⟩
     have q0 := (O5.out.cell 0).trans (show _ = some (J I z) by rw [← hz]; rfl)
     have HZ := Hi hz
     clear hz
     by_cases hz0 : z = 0
     · have hb : (z != 0) = false := by rw [hz0]; rfl
       have E := Hi (show K.byteL v pl (c - (i + 1)) (i + 1) Q.1 = R by rw [EE.out, if_pos (HZ.out.trans hz0)])
       have HZ0 := Hi hz0
       clear hz0
       go_wp2_with fail
       go_roundw
       case rel =>
        have hxy : Q.1.x = τ.x + 1 ∧ Q.1.y = τ.y := by
         have hq := HQ.out
         subst hq
         exact put_xy (HZ.out.trans HZ0.out)
        exact ⟨i + 1, Q.1, by omega, by go_num, E.out, JA.out, OF.out, CH.out, by rw [hxy.1]; have := HX.out; omega, by rw [hxy.2]; exact HY.out⟩
       case measure => simp [intOf]; omega
     · have hb : (z != 0) = true := by rw [bne_iff_ne]; exact hz0
       have E := Hi (show R = Q by rw [EE.out, if_neg (by rw [HZ.out]; exact hz0)])
       clear hz0
       go_wp2_with (first
        | (refine aL (by kernel_rfl) 31 3 _ rfl (dF) (fc f Q.2) rfl rfl O5.out Tryz.underlying31 rfl (by kernel_rfl) ?_; intro _)
        | (refine so 31 3 (d) (fc f Q.2) OF.out ?_; intro ws hst hO; have OF := Hi hO; have JA := Hi (JA.out.stored JL.out hst (by omega)); have O4 := Hi (hst.oth O4.out (by omega)); have O5 := Hi (hst.oth O5.out (by omega)); have CH := Hi (Stored.chgS hst CH.out (Or.inr (by have := HDe.out; omega))); clear hst hO))
       refine bodyPost_ret (v := .agg (fc f Q.2).toArray) ?_ rfl ⟨by rw [E.out]; rfl, by rw [E.out]; exact JA.out, CH.out⟩
       exact aD Tryz.results189 _ _ _ (fc f Q.2) _ rfl OF.out.range0 Tryz.underlying31 rfl (by kernel_rfl)
end Go.Proofs.YtfchnibjjokmbaaGreat

/- dibrle.Pack, walked. -/
import Derived.Test.YtlfbaggcfaenlaaGreatK26
import Derived.Test.YtlfbaggcfaenlaaGreatK1
import Derived.Deep.CutRange
import Derived.Test.YtlfbaggcfaenlaaGreatK0
namespace Go.Proofs.YtlfbaggcfaenlaaGreat
open Go.RowKit
set_option linter.unusedVariables false
set_option linter.unusedSimpArgs false
def lenV : Value → Nat
  | .slice _ n _ => n
  | _ => 0
theorem slice_eq2 {a : Option Addr} {n n' c c' : Nat} (h2 : n = n') (h3 : c = c') : Value.slice a n c = Value.slice a n' c' := by subst h2 h3; rfl
set_option maxRecDepth 100000 in
set_option maxHeartbeats 8000000 in
theorem epack_go (l : List Int) (B o cap W R : Nat) (d : Int) (w : World) (hB : B < w.heap.size) (hn : l.length ≤ 100000000) (hcap : l.length ≤ cap) (hcm : cap ≤ maxLen) (hW : 1 ≤ W) (hW2 : W ≤ 16384) (hd : d = 4 ∨ d = 8) (hR : l.length = R * W) (hR1 : 1 ≤ R)
    (hc : ∀ i, i < l.length → w.cell? ⟨B, o + i, none⟩ = some (.int .i64 (l.getD i 0))) :
    Calls Tryz.prog 61 #[.slice (some ⟨B, o, none⟩) l.length cap, .int .i64 W, .int .i64 d] w (Packs w (if ∀ i, i < l.length → 0 ≤ l.getD i 0 ∧ l.getD i 0 < 2 ^ d.toNat then (strOf (encA l W d 0), 0) else (ByteArray.empty, 2))) := by
  have HC := Hi hc
  have HRR := Hi hR
  have HD := Hi hd
  clear hc
  obtain ⟨n, hnn⟩ : ∃ n, l.length = n := ⟨_, rfl⟩
  have HN := Hi hnn
  obtain ⟨P, hP⟩ : ∃ P, (if ∀ i, i < l.length → 0 ≤ l.getD i 0 ∧ l.getD i 0 < 2 ^ d.toNat then (strOf (encA l W d 0), (0 : Int)) else (ByteArray.empty, 2)) = P := ⟨_, rfl⟩
  rw [hP]
  have HP := Hi hP
  clear hP
  rw [hnn] at hn hcap hR ⊢
  have D1 : decide ((W : Int) < 1) = false := by rw [decide_eq_false_iff_not]; omega
  have D2 : decide ((W : Int) > 16384) = false := by rw [decide_eq_false_iff_not]; omega
  have n1 : 1 ≤ n := by rw [hR]; exact Nat.mul_pos hR1 hW
  have D5 : ((n : Int) == 0) = false := by rw [beq_eq_false_iff_ne]; omega
  have hm : n % W = 0 := by rw [hR]; exact Nat.mul_mod_left R W
  have hmI : ((n : Int) % (W : Int)) = 0 := by rw [← Int.natCast_emod, hm]; rfl
  have hW0 : ((W : Int) == 0) = false := by rw [beq_eq_false_iff_ne]; omega
  have HRN := Hi hR
  clear hm hd hR hnn
  go_enter Tryz.func61, Tryz.ntmps61
  go_upto_region 1 with (fail)
  obtain ⟨e4, he4⟩ : ∃ x, (d != 4) = x := ⟨_, rfl⟩
  obtain ⟨e8, he8⟩ : ∃ x, (d != 8) = x := ⟨_, rfl⟩
  have HE := Hi (show (e4 && e8) = false by rw [← he4, ← he8]; rcases HD.out with rfl | rfl <;> rfl)
  go_cut [37] from 12 to 37 (fun c wx => c = .bool false ∧ wx = w)
  case first =>
    cases e4
    · go_wp2_with ((with_reducible refine skip_g rfl ?_ ?_); rfl; intro _)
      go_meet
      exact ⟨rfl, rfl⟩
    · obtain rfl : e8 = false := HE.out
      go_wp2_with ((with_reducible refine skip_g rfl ?_ ?_); rfl; intro _)
      go_meet
      exact ⟨rfl, rfl⟩
  case rest =>
  obtain ⟨rfl, rfl⟩ := hcut
  obtain ⟨w, rfl⟩ : ∃ x, x = wc := ⟨_, rfl⟩
  clear D1 D2 D5 hmI hW0 he4 he8 HE
  have bW : W ≤ n := by have := HRN.out; have := Nat.mul_le_mul_right W hR1; omega
  go_wp2_with fail
  go_loopw [0, 8, 9, 10, 11] (fun s v q9 q10 q11 wr => ∃ (r : Nat) (xs : List Int) (a : Option Addr), (n - r * W ≠ 0 → a = some ⟨B, o + r * W, none⟩) ∧ r ≤ R ∧ s = .slice a (n - r * W) (cap - r * W) ∧ wr.ownsRow w.heap.size 5 1 v xs.length (xs.map (.int .u8)) ∧ xs ++ encA l W d (r * W) = encA l W d 0 ∧ xs.length ≤ 2 * (r * W) + 2 * r ∧ (∀ j, j < r * W → 0 ≤ l.getD j 0 ∧ l.getD j 0 < 2 ^ d.toNat) ∧ Below w.heap.size w wr) (fun s _ _ _ _ _ => lenV s)
  case atStart => exact ⟨0, [], some ⟨B, o, none⟩, fun _ => by simp, by omega, by simp, World.ownsRow_nil _ _ _ _, by simp, by simp, fun j hj => by omega, Below.refl _ _⟩
  case round =>
    obtain ⟨r, xs, a, ha, hr, rfl, hown, henc, hxl, hgd, hb⟩ := hrel
    have HO := Hi hown
    have HENC := Hi henc
    have HGD := Hi hgd
    have HB := Hi hb
    have hsz := hb.size
    clear hown henc hgd hb
    obtain ⟨i, hi⟩ : ∃ i, r * W = i := ⟨_, rfl⟩
    rw [hi] at HENC HGD hxl ha
    rw [hi]
    have HI := Hi hi
    have hiR : r < R → i + W ≤ n := by
      intro h
      rw [HRN.out, ← HI.out]
      have := Nat.mul_le_mul_right W (show r + 1 ≤ R by omega)
      rw [Nat.add_mul, Nat.one_mul] at this
      exact this
    have hiE : r = R → i = n := by intro h; rw [HRN.out, ← HI.out, h]
    have hrn : r ≤ 100000000 := by
      have h1 := HRN.out
      have h2 := Nat.le_mul_of_pos_right R hW
      omega
    clear hi
    by_cases hlt : r < R
    rotate_left
    · have hin : i = n := hiE (by omega)
      have L1 : n - i = 0 := by omega
      have PB := Hi (show P = (strOf (xs ++ [0, 1]), 0) by
        rw [← HP.out, if_pos (fun j hj => HGD.out j (by rw [HN.out] at hj; omega)), ← HENC.out, encA_end l W d i (by rw [HN.out]; omega)])
      clear hiR hiE
      go_wp2_with (at_builtin; refine appN rfl (.tmp 95) (.tmp 96) 61 rfl w.heap.size 5 (.int .u8 0) 1 Tryz.underlying61 (by kernel_rfl) rfl _ _ _ rfl HO.out _ _ rfl rfl _ rfl (by omega) (by unfold maxLen; omega) hsz ?_; intro v' w1 hown1 hB1 hz1; have O1 := Hi hown1; have B1 := Hi hB1; have hcv := owns_string (P := Tryz.prog) (owns_eq hown1 (show _ = (xs ++ [0, 1]).length by simp) (show _ = (xs ++ [0, 1]).map (Value.int .u8) by simp)) 61 9 5 Tryz.underlying61 Tryz.underlying5 Tryz.underlying9; clear hown1 hB1)

      go_ret2
      exact ⟨by rw [PB.out]; rfl, B1.out w HB.out⟩
    · have hiW := hiR hlt
      obtain rfl := ha (by omega)
      clear ha
      have L1 : 0 < n - i := by omega
      have L2 : W ≤ cap - i := by omega
      clear hiR hiE
      go_wp2_with fail
      obtain ⟨wo, rfl⟩ : ∃ wo : World, wo = wr := ⟨_, rfl⟩
      go_loopw [8, 9, 10, 11] (fun v row q10 q11 wr => ∃ (i2 : Nat) (xs2 : List Int) (a : Option Addr), (i + W - i2 ≠ 0 → a = some ⟨B, o + i2, none⟩) ∧ i ≤ i2 ∧ i2 ≤ i + W ∧ row = .slice a (i + W - i2) (cap - i2) ∧ wr.ownsRow w.heap.size 5 1 v xs2.length (xs2.map (.int .u8)) ∧ xs2 ++ ((if i2 = i + W then [0, 0] else []) ++ encA l W d i2) = encA l W d 0 ∧ xs2.length ≤ 2 * i2 + 2 * r ∧ (∀ j, j < i2 → 0 ≤ l.getD j 0 ∧ l.getD j 0 < 2 ^ d.toNat) ∧ Below w.heap.size w wr) (fun _ row _ _ _ => lenV row)
      case atStart => exact ⟨i, xs, some ⟨B, o + i, none⟩, fun _ => rfl, Nat.le_refl _, by omega, by first | rfl | simp, HO.out, by rw [if_neg (by omega)]; exact HENC.out, hxl, HGD.out, HB.out⟩
      case round =>
        obtain ⟨i2, xs2, a, ha, hi0, hi1, rfl, hown, henc, hxl2, hgd, hb⟩ := hrel
        have HO2 := Hi hown
        have HENC2 := Hi henc
        have HGD2 := Hi hgd
        have HB2 := Hi hb
        have hsz2 := hb.size
        clear hown henc hgd hb HO HENC HGD HB hsz hxl
        by_cases hlt2 : i2 < i + W
        rotate_left
        · have hie : i2 = i + W := by omega
          have L3 : i + W - i2 = 0 := by omega
          have HX2 := Hi (show ((r + 1) * W = i + W) by rw [Nat.add_mul, Nat.one_mul, HI.out])
          go_wp2_with (at_builtin; refine appN rfl (.tmp 92) (.tmp 93) 61 rfl w.heap.size 5 (.int .u8 0) 1 Tryz.underlying61 (by kernel_rfl) rfl _ _ _ rfl HO2.out _ _ rfl rfl _ rfl (by omega) (by unfold maxLen; omega) hsz2 ?_; intro v' w1 hown1 hB1 hz1; have O1 := Hi hown1; have B1 := Hi hB1; clear hown1 hB1)
          go_roundw
          case rel => exact ⟨r + 1, xs2 ++ [0, 0], (if cap - i = W then some ⟨B, o + i, none⟩ else some ⟨B, o + i + W, none⟩), fun h0 => by rw [HX2.out] at h0 ⊢; rw [if_neg (by omega), Nat.add_assoc], by omega, by rw [HX2.out]; exact slice_eq2 (by omega) (by omega), owns_eq O1.out (by simp) (by simp), by rw [HX2.out, ← HENC2.out, hie, if_pos rfl, List.append_assoc], by rw [HX2.out, List.length_append]; simp; omega, fun j hj => HGD2.out j (by rw [HX2.out] at hj; omega), B1.out w HB2.out⟩
          case measure => simp [lenV]; omega
        · obtain rfl := ha (by omega)
          clear ha
          have L3 : 0 < i + W - i2 := by omega
          have hck := ((bcell HB2.out).1 B (o + i2) hB).trans (HC.out i2 (by rw [HN.out]; omega))
          obtain ⟨x, hx⟩ : ∃ x, l.getD i2 0 = x := ⟨_, rfl⟩
          rw [hx] at hck
          have HX := Hi hx
          clear hx
          obtain ⟨bad, hbad⟩ : ∃ bad, decide (x < 0 ∨ 2 ^ d.toNat ≤ x) = bad := ⟨_, rfl⟩
          have HBAD := Hi hbad
          go_upto_region 9 with (fail)
          go_cut [60] from 53 to 60 (fun c wx => c = .bool bad ∧ wx = wr)
          case first => as_aux_lemma =>
            rcases HD.out with rfl | rfl
            · have eT : (2 : Int) ^ (Int.toNat 4) = 16 := by decide
              by_cases hx0 : x < 0
              · have e : bad = true := by rw [← HBAD.out, decide_eq_true_iff]; exact Or.inl hx0
                subst e
                go_wp2_with ((with_reducible refine skip_g rfl ?_ ?_); rfl; intro _)
                go_meet
                exact ⟨rfl, rfl⟩
              · have e : bad = decide (x ≥ 16) := by rw [← HBAD.out, eT]; exact decide_eq_decide.2 ⟨fun h => h.resolve_left hx0, Or.inr⟩
                subst e
                clear eT
                go_wp2_with ((with_reducible refine skip_g rfl ?_ ?_); rfl; intro _)
                go_meet
                exact ⟨rfl, rfl⟩
            · have eT : (2 : Int) ^ (Int.toNat 8) = 256 := by decide
              by_cases hx0 : x < 0
              · have e : bad = true := by rw [← HBAD.out, decide_eq_true_iff]; exact Or.inl hx0
                subst e
                go_wp2_with ((with_reducible refine skip_g rfl ?_ ?_); rfl; intro _)
                go_meet
                exact ⟨rfl, rfl⟩
              · have e : bad = decide (x ≥ 256) := by rw [← HBAD.out, eT]; exact decide_eq_decide.2 ⟨fun h => h.resolve_left hx0, Or.inr⟩
                subst e
                clear eT
                go_wp2_with ((with_reducible refine skip_g rfl ?_ ?_); rfl; intro _)
                go_meet
                exact ⟨rfl, rfl⟩
          case rest =>
          obtain ⟨rfl, rfl⟩ := hcut
          clear hbad
          cases bad
          rotate_left
          · have PB := Hi (show P = (ByteArray.empty, 2) by
              have h1 := of_decide_eq_true HBAD.out
              rw [← HP.out, if_neg]
              intro h
              have := h i2 (by rw [HN.out]; omega)
              rw [HX.out] at this
              omega)
            go_wp2_with fail
            go_ret2
            exact ⟨by rw [PB.out]; rfl, HB2.out⟩
          have hg : 0 ≤ x ∧ x < 2 ^ d.toNat := by have h1 := of_decide_eq_false HBAD.out; omega
          have HG := Hi hg
          clear hg
          have hNp := nRun_pos l i2 (i + W)
          have hNl := nRun_le l i2 (i + W) hlt2 (by rw [HN.out]; omega)
          have HNI := Hi (fun j hj => nRun_in l i2 (i + W) j hlt2 (by rw [HN.out]; omega) hj)
          have HNE := Hi (nRun_end l i2 (i + W) hlt2 (by rw [HN.out]; omega))
          have HRE := Hi (show rowEnd W i2 = i + W by
            obtain ⟨k, hk⟩ := Nat.exists_eq_add_of_le hi0
            rw [hk, ← HI.out]; exact rowEnd_at W r k (by omega))
          have HST := Hi (encA_step l W d i2 (by rw [HN.out]; omega))
          rw [HRE.out, HX.out] at HST
          obtain ⟨N, hN⟩ : ∃ N, nRun l i2 (i + W) = N := ⟨_, rfl⟩
          rw [hN] at hNp hNl HNI HNE HST
          clear hN
          go_wp2_with fail
          go_loop [11] (fun c => ∃ k : Nat, 1 ≤ k ∧ k ≤ N ∧ c = .int .i64 k) (fun c => N - (intOf c).toNat)
          case atStart => exact ⟨1, by omega, by omega, rfl⟩
          case round =>
            obtain ⟨k, hk1, hkN, rfl⟩ := hrel
            by_cases hlt3 : k < N
            · have hck2 := ((bcell HB2.out).1 B (o + (i2 + k)) hB).trans (HC.out (i2 + k) (by rw [HN.out]; omega))
              rw [HNI.out k hlt3, HX.out, ← Nat.add_assoc] at hck2
              have M1 : ((k : Int) < min ((i + W - i2 : Nat) : Int) 255) := by omega
              have M2 : k < i + W - i2 := by omega
              go_wp2_with fail
              all_goals
                go_round
                case rel => exact ⟨k + 1, by omega, by omega, by go_num⟩
                case measure => simp [intOf]; omega
            · obtain rfl : k = N := by omega
              clear hlt3 hkN hk1
              have hend : ¬ (k < 255 ∧ i2 + k < i + W) ∨ ∃ y, y ≠ x ∧ k < i + W - i2 ∧ k < 255 ∧ wc.cell? ⟨B, o + i2 + k, none⟩ = some (.int .i64 y) := by
                by_cases hq : k < 255 ∧ i2 + k < i + W
                · right
                  refine ⟨_, fun e => HNE.out hq.1 hq.2 (e.trans HX.out.symm), by omega, hq.1, ?_⟩
                  have h1 := ((bcell HB2.out).1 B (o + (i2 + k)) hB).trans (HC.out (i2 + k) (by rw [HN.out]; omega))
                  rw [← Nat.add_assoc] at h1
                  exact h1
                · exact Or.inl hq
              have HEND := Hi hend
              clear hend
              go_upto_region 11 with (fail)
              go_cut [73] from 61 to 73 (fun c wx => c = .bool false ∧ wx = wc)
              case first => as_aux_lemma =>
                rcases HEND.out with hq | ⟨y, hy, hq1, hq2, hcy⟩
                · have M1 : ¬ ((k : Int) < min ((i + W - i2 : Nat) : Int) 255) := by omega
                  go_wp2_with ((with_reducible refine skip_g rfl ?_ ?_); rfl; intro _)
                  all_goals
                    go_meet
                    exact ⟨rfl, rfl⟩
                · have M1 : ((k : Int) < min ((i + W - i2 : Nat) : Int) 255) := by omega
                  have M2 : (y == x) = false := by rw [beq_eq_false_iff_ne]; exact hy
                  go_wp2_with fail
                  all_goals
                    go_meet
                    exact ⟨rfl, rfl⟩
              case rest =>
              obtain ⟨rfl, rfl⟩ := hcut
              clear HEND HNE
              obtain ⟨pv, hpv⟩ : ∃ pv, pairV d x = pv := ⟨_, rfl⟩
              have HPV := Hi hpv
              have hpb : 0 ≤ pv ∧ pv ≤ 255 := by
                rw [← hpv]
                have hg := HG.out
                rcases HD.out with rfl | rfl
                · have g2 : x < 16 := hg.2
                  have g1 := hg.1
                  show 0 ≤ 17 * x ∧ 17 * x ≤ 255
                  omega
                · have g2 : x < 256 := hg.2
                  have g1 := hg.1
                  show 0 ≤ x ∧ x ≤ 255
                  omega
              clear hpv
              go_upto_if 77 with (fail)
              go_cut [10] from 78 to 81 (fun c wx => c = .int .i64 pv ∧ wx = wc)
              case first => as_aux_lemma =>
                have hg := HG.out
                rcases HD.out with rfl | rfl
                · have g2 : x < 16 := hg.2
                  have g1 := hg.1
                  have e1 : pv = 17 * x := HPV.out.symm
                  have e2 : bits .or .i64 x (x * 16) = 17 * x := by
                    have h := or_low 4 x x g1 (by omega) g1 (by omega)
                    rw [show (2 : Int) ^ 4 = 16 from rfl] at h
                    rw [h]; omega
                  have e3 : wrap64 (x * 16) = x * 16 := IntWalk.wrap64_in _ ⟨by omega, by omega⟩
                  subst e1
                  clear hg hpb g1 g2
                  go_wp2_with fail
                  go_meet
                  exact ⟨by first | rfl | (rw [e2]), rfl⟩
                · have e1 : pv = x := HPV.out.symm
                  subst e1
                  clear hg hpb
                  go_wp2_with fail
                  go_meet
                  exact ⟨rfl, rfl⟩
              case rest =>
              obtain ⟨rfl, rfl⟩ := hcut
              have eK : IntKind.u8.wrap (k : Int) = (k : Int) := by show (k : Int) % 256 = k; omega
              have eP : IntKind.u8.wrap pv = pv := by show pv % 256 = pv; omega
              have M3 : k ≤ i + W - i2 := by omega
              clear hpb
              go_wp2_with (at_builtin; refine appN rfl (.tmp 82) (.tmp 87) 61 rfl w.heap.size 5 (.int .u8 0) 1 Tryz.underlying61 (by kernel_rfl) rfl _ _ _ rfl HO2.out _ _ rfl rfl _ rfl (by omega) (by unfold maxLen; omega) hsz2 ?_; intro v' w1 hown1 hB1 hz1; have O1 := Hi hown1; have B1 := Hi hB1; clear hown1 hB1)
              go_roundw
              case rel =>
                refine ⟨i2 + k, xs2 ++ [(k : Int), pv], (if cap - i2 = k then some ⟨B, o + i2, none⟩ else some ⟨B, o + i2 + k, none⟩), fun h0 => by rw [if_neg (by omega), Nat.add_assoc], by omega, by omega, slice_eq2 (by omega) (by omega), owns_eq O1.out (by simp) (by simp), ?_, by rw [List.length_append]; simp; omega, ?_, B1.out w HB2.out⟩
                · have h1 := HENC2.out
                  rw [if_neg (by omega), List.nil_append, HST.out, HPV.out] at h1
                  rw [List.append_assoc]; exact h1
                · intro j hj
                  by_cases hji : j < i2
                  · exact HGD2.out j hji
                  · have h1 := HNI.out (j - i2) (by omega)
                    rw [show i2 + (j - i2) = j by omega, HX.out] at h1
                    rw [h1]; exact HG.out
              case measure => simp [lenV]; omega
end Go.Proofs.YtlfbaggcfaenlaaGreat

/- The reference of layer 22: run, walked. -/
import Derived.Test.YtlhcjnjajkfahaaK9
namespace Go.Proofs.Ytlhcjnjajkfahaa
open Go.RowKit
set_option linter.unusedVariables false
set_option linter.unusedSimpArgs false
/-- What run and plain answer. -/
def St22Post (w : World) (x y pl N gL cL : Nat) (R : E22 S22) (e : Ending) (w' : World) : Prop :=
  match R with
  | .error ka => ∃ p : Int, e = .returned (.agg (List.toArray (stL x y p (.slice (some ⟨gL, 0, none⟩) N cL) ka.1 ka.2))) ∧ Below w.heap.size w w'
  | .ok τ => Put22Post w τ.x τ.y τ.pl N τ.L e w'
set_option maxRecDepth 100000 in
set_option maxHeartbeats 8000000 in
theorem run22_any (sz : Int) (W H : Nat) (top : Bool) (dp mt co r g b q fr en : Int) (s : ByteArray) (x y pl n N M gL cL gt ct bL bt : Nat) (xs tb : List Value) (w : World) (hN : N = W * H) (hW : W ≤ 40) (hH : H ≤ 40) (hn : 1 ≤ n) (hn2 : n ≤ 255) (hM : M ≤ 256) (hpl : pl + 1 < s.size) (hs : s.size ≤ 100000)
    (hx0 : x ≤ W) (hy0 : y ≤ H) (hdp : dp = 4 ∨ dp = 8)
    (hL : w.ownsRow bL 41 4 (.slice (some ⟨gL, 0, none⟩) N cL) N xs) (hx1 : ∀ u ∈ xs, u.oneCell' = true) (ht : w.ownsRow bt 41 4 (.slice (some ⟨gt, 0, none⟩) M ct) M tb) (ht1 : ∀ u ∈ tb, u.oneCell' = true) :
    Calls Try.prog 49 #[.agg (List.toArray (stL x y pl (.slice (some ⟨gL, 0, none⟩) N cL) 0 0)), .string s, .agg (List.toArray [.int .i64 sz, .int .i64 W, .int .i64 H, .bool top, .int .i64 dp, .int .i64 mt, .int .i64 co, .int .i64 r, .int .i64 g, .int .i64 b, .int .i64 q, .int .i64 fr, .int .i64 en, .int .i64 0, .int .i64 0]), .slice (some ⟨gt, 0, none⟩) M ct, .int .i64 n] w (St22Post w x y pl N gL cL (run22 s tb M W H dp ⟨x, y, pl, xs⟩ n)) := by
  obtain ⟨d, hd⟩ : ∃ d, w.heap.size = d := ⟨_, rfl⟩
  have lL := (owns_lt hL).2
  have lt := (owns_lt ht).2
  have htb : tb.length = 4 * M := by have := ht.1; omega
  rw [hd] at lL lt
  have HL := Lib.hid hL
  have HT := Lib.hid ht
  have HX1 := Lib.hid hx1
  have HT1 := Lib.hid ht1
  have HN := Lib.hid hN
  have HDP := Lib.hid hdp
  clear hL ht hx1 ht1 hN hdp
  unfold stL
  have O3 := Lib.hid (((obj1_new w (List.toArray [.int .i64 x, .int .i64 y, .int .i64 pl, .slice (some ⟨gL, 0, none⟩) N cL, .int .i64 0, .int .i64 0]) 79).alloc (.cells (List.toArray [.int .i64 sz, .int .i64 W, .int .i64 H, .bool top, .int .i64 dp, .int .i64 mt, .int .i64 co, .int .i64 r, .int .i64 g, .int .i64 b, .int .i64 q, .int .i64 fr, .int .i64 en, .int .i64 0, .int .i64 0]) 31)).alloc (.cells (List.toArray [.int .i64 0, .int .i64 0, .int .i64 0, .slice none 0 0, .int .i64 0, .int .i64 0]) 79))
  have O4 := Lib.hid ((obj1_new (w.alloc (.cells (List.toArray [.int .i64 x, .int .i64 y, .int .i64 pl, .slice (some ⟨gL, 0, none⟩) N cL, .int .i64 0, .int .i64 0]) 79)) (List.toArray [.int .i64 sz, .int .i64 W, .int .i64 H, .bool top, .int .i64 dp, .int .i64 mt, .int .i64 co, .int .i64 r, .int .i64 g, .int .i64 b, .int .i64 q, .int .i64 fr, .int .i64 en, .int .i64 0, .int .i64 0]) 31).alloc (.cells (List.toArray [.int .i64 0, .int .i64 0, .int .i64 0, .slice none 0 0, .int .i64 0, .int .i64 0]) 79))
  have O5 := Lib.hid (obj1_new ((w.alloc (.cells (List.toArray [.int .i64 x, .int .i64 y, .int .i64 pl, .slice (some ⟨gL, 0, none⟩) N cL, .int .i64 0, .int .i64 0]) 79)).alloc (.cells (List.toArray [.int .i64 sz, .int .i64 W, .int .i64 H, .bool top, .int .i64 dp, .int .i64 mt, .int .i64 co, .int .i64 r, .int .i64 g, .int .i64 b, .int .i64 q, .int .i64 fr, .int .i64 en, .int .i64 0, .int .i64 0]) 31)) (List.toArray [.int .i64 0, .int .i64 0, .int .i64 0, .slice none 0 0, .int .i64 0, .int .i64 0]) 79)
  rw [show (w.alloc (.cells (List.toArray [.int .i64 x, .int .i64 y, .int .i64 pl, .slice (some ⟨gL, 0, none⟩) N cL, .int .i64 0, .int .i64 0]) 79)).heap.size = d + 1 by rw [← hd]; simp] at O4
  rw [show ((w.alloc (.cells (List.toArray [.int .i64 x, .int .i64 y, .int .i64 pl, .slice (some ⟨gL, 0, none⟩) N cL, .int .i64 0, .int .i64 0]) 79)).alloc (.cells (List.toArray [.int .i64 sz, .int .i64 W, .int .i64 H, .bool top, .int .i64 dp, .int .i64 mt, .int .i64 co, .int .i64 r, .int .i64 g, .int .i64 b, .int .i64 q, .int .i64 fr, .int .i64 en, .int .i64 0, .int .i64 0]) 31)).heap.size = d + 1 + 1 by rw [← hd]; simp] at O5
  rw [hd] at O3
  have BL := Lib.hid ((((Below.refl w.heap.size w).alloc (Nat.le_refl _) (.cells (List.toArray [.int .i64 x, .int .i64 y, .int .i64 pl, .slice (some ⟨gL, 0, none⟩) N cL, .int .i64 0, .int .i64 0]) 79)).alloc (by simp) (.cells (List.toArray [.int .i64 sz, .int .i64 W, .int .i64 H, .bool top, .int .i64 dp, .int .i64 mt, .int .i64 co, .int .i64 r, .int .i64 g, .int .i64 b, .int .i64 q, .int .i64 fr, .int .i64 en, .int .i64 0, .int .i64 0]) 31)).alloc (by simp; omega) (.cells (List.toArray [.int .i64 0, .int .i64 0, .int .i64 0, .slice none 0 0, .int .i64 0, .int .i64 0]) 79))
  have hz3 : (((w.alloc (.cells (List.toArray [.int .i64 x, .int .i64 y, .int .i64 pl, .slice (some ⟨gL, 0, none⟩) N cL, .int .i64 0, .int .i64 0]) 79)).alloc (.cells (List.toArray [.int .i64 sz, .int .i64 W, .int .i64 H, .bool top, .int .i64 dp, .int .i64 mt, .int .i64 co, .int .i64 r, .int .i64 g, .int .i64 b, .int .i64 q, .int .i64 fr, .int .i64 en, .int .i64 0, .int .i64 0]) 31)).alloc (.cells (List.toArray [.int .i64 0, .int .i64 0, .int .i64 0, .slice none 0 0, .int .i64 0, .int .i64 0]) 79)).heap.size = d + 1 + 1 + 1 := by rw [← hd]; simp
  have HL := Lib.hid (owns_under HL.out BL.out)
  have HT := Lib.hid (owns_under HT.out BL.out)
  rw [hd] at BL
  obtain ⟨R, hR⟩ : ∃ R, run22 s tb M W H dp ⟨x, y, pl, xs⟩ n = R := ⟨_, rfl⟩
  rw [hR]
  have HR := Lib.hid hR
  have HD0 := Lib.hid hd
  clear hR
  go_enter Try.func49, Try.ntmps49
  go_upto_region 1 with (fail)
  clear hd
  generalize World.alloc _ _ = w3 at O3 O4 O5 BL HL HT hz3 ⊢
  have HZ3 := Lib.hid hz3
  have lO5 := O5.out.lt
  have c32 : w3.cell? ⟨d, 2, none⟩ = some (.int .i64 pl) := (O3.out.cell 2).trans rfl
  have c31 : w3.cell? ⟨d, 1, none⟩ = some (.int .i64 y) := (O3.out.cell 1).trans rfl
  have c30 : w3.cell? ⟨d, 0, none⟩ = some (.int .i64 x) := (O3.out.cell 0).trans rfl
  have c42 : w3.cell? ⟨d + 1, 2, none⟩ = some (.int .i64 H) := (O4.out.cell 2).trans rfl
  have c41 : w3.cell? ⟨d + 1, 1, none⟩ = some (.int .i64 W) := (O4.out.cell 1).trans rfl
  clear hz3
  have HBD := Lib.hid (fun w0 (k a : Int) => (show Calls Try.prog 86 #[.agg (List.toArray [.int .i64 x, .int .i64 y, .int .i64 pl, .slice (some ⟨gL, 0, none⟩) N cL, .int .i64 0, .int .i64 0]), .int .i64 k, .int .i64 a] w0 (RA w0 [.int .i64 x, .int .i64 y, .int .i64 pl, .slice (some ⟨gL, 0, none⟩) N cL, .int .i64 k, .int .i64 a]) from bad22_any x y pl 0 0 k a (some ⟨gL, 0, none⟩) N cL w0))
  have hcase : (H ≤ y) ∨ (¬ H ≤ y ∧ W < x + n) ∨ (¬ H ≤ y ∧ ¬ W < x + n) := by omega
  rcases hcase with h1 | ⟨h1, h2⟩ | ⟨h1, h2⟩
  · as_aux_lemma =>
      have HRE := Lib.hid (show R = .error (2, (pl : Int)) by rw [← HR.out]; unfold run22; rw [if_pos (Or.inl h1)])
      go_wp2_with (first
        | ((with_reducible refine skip_g rfl ?_ ?_); rfl; intro _)
        | (refine load_u (by kernel_rfl) 79 6 _ rfl d [.int .i64 x, .int .i64 y, .int .i64 pl, .slice (some ⟨gL, 0, none⟩) N cL, .int .i64 0, .int .i64 0] rfl rfl O3.out Try.underlying79 rfl (by kernel_rfl) ?_; intro _)
        | ((go_at_call 86; (with_reducible refine (HBD.out _ 2 pl).mono ?_); rintro e wb ⟨rfl, hb⟩); have O5 := Lib.hid (O5.out.below hb O5.out.lt); have BL := Lib.hid (bthen hb BL.out (by omega)); clear hb)
        | (refine store_o rfl 79 6 _ _ rfl (d + 1 + 1) [.int .i64 x, .int .i64 y, .int .i64 pl, .slice (some ⟨gL, 0, none⟩) N cL, .int .i64 2, .int .i64 pl] rfl rfl (by kernel_rfl) (by kernel_rfl) (by kernel_rfl) O5.out (by first | rfl | simp) ?_; intro ws hst hO; have O5 := Lib.hid hO; have BL := Lib.hid (hst.below BL.out (by omega)); clear hst hO))
      refine bodyPost_ret (v := .agg (List.toArray [.int .i64 x, .int .i64 y, .int .i64 pl, .slice (some ⟨gL, 0, none⟩) N cL, .int .i64 2, .int .i64 pl])) ?_ rfl ?_
      · exact results_c Try.results49 _ _ _ [.int .i64 x, .int .i64 y, .int .i64 pl, .slice (some ⟨gL, 0, none⟩) N cL, .int .i64 2, .int .i64 pl] _ rfl O5.out.range0 Try.underlying79 rfl (by kernel_rfl)
      · rw [show R = .error (2, pl) from HRE.out]
        exact ⟨_, by rfl, by rw [HD0.out]; exact BL.out⟩
  · as_aux_lemma =>
      have HRE := Lib.hid (show R = .error (2, (pl : Int)) by rw [← HR.out]; unfold run22; rw [if_pos (Or.inr h2)])
      have h3 : (W : Int) < (x : Int) + n := by omega
      go_wp2_with (first
        | ((with_reducible refine skip_g rfl ?_ ?_); rfl; intro _)
        | (refine load_u (by kernel_rfl) 79 6 _ rfl d [.int .i64 x, .int .i64 y, .int .i64 pl, .slice (some ⟨gL, 0, none⟩) N cL, .int .i64 0, .int .i64 0] rfl rfl O3.out Try.underlying79 rfl (by kernel_rfl) ?_; intro _)
        | ((go_at_call 86; (with_reducible refine (HBD.out _ 2 pl).mono ?_); rintro e wb ⟨rfl, hb⟩); have O5 := Lib.hid (O5.out.below hb O5.out.lt); have BL := Lib.hid (bthen hb BL.out (by omega)); clear hb)
        | (refine store_o rfl 79 6 _ _ rfl (d + 1 + 1) [.int .i64 x, .int .i64 y, .int .i64 pl, .slice (some ⟨gL, 0, none⟩) N cL, .int .i64 2, .int .i64 pl] rfl rfl (by kernel_rfl) (by kernel_rfl) (by kernel_rfl) O5.out (by first | rfl | simp) ?_; intro ws hst hO; have O5 := Lib.hid hO; have BL := Lib.hid (hst.below BL.out (by omega)); clear hst hO))
      refine bodyPost_ret (v := .agg (List.toArray [.int .i64 x, .int .i64 y, .int .i64 pl, .slice (some ⟨gL, 0, none⟩) N cL, .int .i64 2, .int .i64 pl])) ?_ rfl ?_
      · exact results_c Try.results49 _ _ _ [.int .i64 x, .int .i64 y, .int .i64 pl, .slice (some ⟨gL, 0, none⟩) N cL, .int .i64 2, .int .i64 pl] _ rfl O5.out.range0 Try.underlying79 rfl (by kernel_rfl)
      · rw [show R = .error (2, pl) from HRE.out]
        exact ⟨_, by rfl, by rw [HD0.out]; exact BL.out⟩
  · have HRE := Lib.hid (show run22 s tb M W H dp ⟨x, y, pl, xs⟩ n = match runP tb M (byN s (pl + 1)) dp pl n with
      | .error e => .error e
      | .ok p => .ok ⟨x + n, y, pl + 2, putC xs (4 * ((H - 1 - y) * W + x)) p⟩ by unfold run22; rw [if_neg (show ¬ (H ≤ y ∨ W < x + n) by omega)]; rfl)
    have h3 : ¬ (W : Int) < (x : Int) + n := by omega
    have HE := Lib.hid (owns_empty3' w3 41 4)
    go_wp2_with ((with_reducible refine skip_g rfl ?_ ?_); rfl; intro _)
    clear h3 c32 c31 c30 c42 c41
    go_loopw [12, 13] (fun v c wr => ∃ (i : Nat) (ps : List Value), i ≤ n ∧ c = .int .i64 i ∧ runP tb M (byN s (pl + 1)) dp pl i = .ok ps ∧ wr.ownsRow (d + 1 + 1 + 1) 41 4 v i ps ∧ Below (d + 1 + 1 + 1) w3 wr) (fun _ c _ => n - (intOf c).toNat)
    case atStart => exact ⟨0, [], by omega, by first | rfl | simp, rfl, owns_keep HE.out (by rw [HZ3.out]; omega) (fun _ _ _ => rfl), (Below.refl _ _).alloc (by rw [HZ3.out]; omega) _⟩
    case round =>
      obtain ⟨i, ps, hi, rfl, hps, hown, hb3⟩ := hrel
      have HPS := Lib.hid hps
      have OW := Lib.hid hown
      have BB := Lib.hid hb3
      have hsz := hb3.size
      have O3 := Lib.hid (O3.out.below hb3 (by omega))
      have O4 := Lib.hid (O4.out.below hb3 (by omega))
      have O5 := Lib.hid (O5.out.below hb3 (by omega))
      have HTR := Lib.hid (range_below (owns_range HT.out) hb3 (by omega))
      have HL := Lib.hid (owns_down HL.out hb3 (fun g hg => by
        have : gL = g := by simpa [Value.ownBlock] using hg
        omega))
      have lt4 := O5.out.lt
      clear hps hown hb3
      by_cases hlt : i < n
      rotate_left
      · obtain rfl : i = n := by omega
        rw [HPS.out] at HRE
        have hpl4 := HPS.out
        obtain ⟨gp, cp, rfl, hgp1, hgp2⟩ := owns_form4 OW.out (by omega)
        have HPA := Lib.hid (runP_all tb M (byN s (pl + 1)) dp pl HT1.out i ps HPS.out)
        have BL := Lib.hid (bthen BB.out BL.out (by omega))
        clear hlt hi hpl4
        have c32 : wr.cell? ⟨d, 2, none⟩ = some (.int .i64 pl) := (O3.out.cell 2).trans rfl
        have f32 : wr.frozen? ⟨d, 2, none⟩ = false := O3.out.frozen 2
        go_upto_region 13 with (fail)
        have O3 := Lib.hid ((O3.out.set 2 (.int .i64 ((pl : Int) + 2))).cells (show _ = List.toArray [.int .i64 x, .int .i64 y, .int .i64 ((pl : Int) + 2), .slice (some ⟨gL, 0, none⟩) N cL, .int .i64 0, .int .i64 0] from rfl))
        have O4 := Lib.hid (O4.out.set_other ⟨d, 2, none⟩ (.int .i64 ((pl : Int) + 2)) (by simp))
        have O5 := Lib.hid (O5.out.set_other ⟨d, 2, none⟩ (.int .i64 ((pl : Int) + 2)) (by simp; omega))
        have OW := Lib.hid (owns_set3 (o := 2) (OB := d) OW.out (.int .i64 ((pl : Int) + 2)) (by omega))
        have HL := Lib.hid (owns_set3 (o := 2) (OB := d) HL.out (.int .i64 ((pl : Int) + 2)) (by omega))
        have BL := Lib.hid ((show Stored wr d 2 [.int .i64 ((pl : Int) + 2)] (wr.setCell ⟨d, 2, none⟩ (.int .i64 ((pl : Int) + 2))) from rfl).below BL.out (by omega))
        have hzv : d + 1 + 1 < (wr.setCell ⟨d, 2, none⟩ (.int .i64 ((pl : Int) + 2))).heap.size := by simp; omega
        generalize World.setCell _ _ _ = wv at O3 O4 O5 OW HL BL hzv ⊢
        clear c32 f32
        have HPUT := Lib.hid (fun w0 (h1 : w0.ownsRow bL 41 4 (.slice (some ⟨gL, 0, none⟩) N cL) N xs) (h2 : w0.ownsRow (d + 1 + 1 + 1) 41 4 (.slice (some ⟨gp, 0, none⟩) i cp) i ps) => (show Calls Try.prog 88 #[.agg (List.toArray [.int .i64 x, .int .i64 y, .int .i64 ((pl : Int) + 2), .slice (some ⟨gL, 0, none⟩) N cL, .int .i64 0, .int .i64 0]), .agg (List.toArray [.int .i64 sz, .int .i64 W, .int .i64 H, .bool top, .int .i64 dp, .int .i64 mt, .int .i64 co, .int .i64 r, .int .i64 g, .int .i64 b, .int .i64 q, .int .i64 fr, .int .i64 en, .int .i64 0, .int .i64 0]), .slice (some ⟨gp, 0, none⟩) i cp] w0 (Put22Post w0 (x + i) y ((pl : Int) + 2) N (putC xs (4 * ((H - 1 - y) * W + x)) ps)) from
          put22_any sz W H top dp mt co r g b q fr en x y i N gL cL gp cp bL (d + 1 + 1 + 1) ((pl : Int) + 2) xs ps w0 (by omega) (by omega) HN.out hW hH hn h1 HX1.out h2 HPA.out))
        go_wp2_with (first
          | (refine load_u (by kernel_rfl) 79 6 _ rfl d [.int .i64 x, .int .i64 y, .int .i64 ((pl : Int) + 2), .slice (some ⟨gL, 0, none⟩) N cL, .int .i64 0, .int .i64 0] rfl rfl O3.out Try.underlying79 rfl (by kernel_rfl) ?_; intro _)
          | (refine load_u (by kernel_rfl) 31 15 _ rfl (d + 1) [.int .i64 sz, .int .i64 W, .int .i64 H, .bool top, .int .i64 dp, .int .i64 mt, .int .i64 co, .int .i64 r, .int .i64 g, .int .i64 b, .int .i64 q, .int .i64 fr, .int .i64 en, .int .i64 0, .int .i64 0] rfl rfl O4.out Try.underlying31 rfl (by kernel_rfl) ?_; intro _)
          | ((go_at_call 88; (with_reducible refine (HPUT.out _ HL.out OW.out).mono ?_); rintro e wb ⟨gz, cz, rfl, hz, hb⟩); have OZ := Lib.hid hz; have O5 := Lib.hid (O5.out.below hb O5.out.lt); have BL := Lib.hid (bthen hb BL.out (by omega)); have hgz := owns_lt hz; clear hb hz)
          | (refine store_o rfl 79 6 _ _ rfl (d + 1 + 1) (stL ((x + i : Nat) : Int) y ((pl : Int) + 2) (.slice (some ⟨gz, 0, none⟩) N cz) 0 0) rfl rfl (by kernel_rfl) (by kernel_rfl) (by kernel_rfl) O5.out (by first | rfl | simp) ?_; intro ws hst hO; have O5 := Lib.hid hO; have OZ := Lib.hid (hst.owns OZ.out (by omega)); have BL := Lib.hid (hst.below BL.out (by omega)); clear hst hO))
        refine bodyPost_ret (v := .agg (List.toArray (stL ((x + i : Nat) : Int) y ((pl : Int) + 2) (.slice (some ⟨gz, 0, none⟩) N cz) 0 0))) ?_ rfl ?_
        · exact results_c Try.results49 _ _ _ (stL ((x + i : Nat) : Int) y ((pl : Int) + 2) (.slice (some ⟨gz, 0, none⟩) N cz) 0 0) _ rfl O5.out.range0 Try.underlying79 rfl (by kernel_rfl)
        · rw [show R = .ok ⟨x + i, y, pl + 2, putC xs (4 * ((H - 1 - y) * W + x)) ps⟩ from HR.out.symm.trans HRE.out]
          exact ⟨gz, cz, by show _ = Ending.returned (.agg (List.toArray (stL ((x + i : Nat) : Int) y ((pl + 2 : Nat) : Int) (.slice (some ⟨gz, 0, none⟩) N cz) 0 0))); rw [show ((pl + 2 : Nat) : Int) = (pl : Int) + 2 from Int.natCast_add pl 2], owns_keep OZ.out (by rw [HD0.out]; omega) (fun _ _ _ => rfl), by rw [HD0.out]; exact BL.out⟩
      · have hb0 := byN_bd s (pl + 1)
        have HEN := Lib.hid (fun w0 => entry22_any (byN s (pl + 1)) dp i w0 hb0.1 hb0.2)
        have hk0 : 0 ≤ entR (byN s (pl + 1)) dp i ∧ entR (byN s (pl + 1)) dp i < 256 := by unfold entR; split <;> (try split) <;> omega
        obtain ⟨k, hk⟩ : ∃ k : Nat, entR (byN s (pl + 1)) dp i = k := ⟨(entR (byN s (pl + 1)) dp i).toNat, by omega⟩
        have HK := Lib.hid hk
        rw [hk] at HEN
        have hget := byN_get s (pl + 1) hpl
        clear hk hb0
        go_upto_region 8 with (fail)
        refine wp_region_noPanic ?_
        refine wp_region_held_drew (S := fun w' => Chg (fun _ => False) wr w') (by kernel_rfl) (Chg.refl _ _).drew (fun hHeld => ?_)
        refine wpAnyH_take (i := 0) (v := .string s) rfl (by kernel_rfl) (by kernel_rfl) (by kernel_rfl) (fun _ _ _ h => h) (Or.inl ⟨by rfl, fun w hS => by (go_simp) <;> first | rfl | assumption | (intro hh; exfalso; omega) | (exact (i64_wraps _ (by omega) (by omega)).trans (by omega)) | omega⟩) hHeld ?_
        simp only [Act.put, List.setIfInBounds_toArray, List.set_cons_zero, List.set_cons_succ, List.getElem_toArray, List.getElem_cons_zero, List.getElem_cons_succ]
        refine wpAnyH_take (i := 1) (v := .int .i64 (pl : Int)) rfl (by kernel_rfl) (by kernel_rfl) (by kernel_rfl) (fun _ _ _ h => h) (Or.inl ⟨by rfl, fun w hS => by (go_simp) <;> first | rfl | assumption | (intro hh; exfalso; omega) | (exact (i64_wraps _ (by omega) (by omega)).trans (by omega)) | omega⟩) hHeld ?_
        simp only [Act.put, List.setIfInBounds_toArray, List.set_cons_zero, List.set_cons_succ, List.getElem_toArray, List.getElem_cons_zero, List.getElem_cons_succ]
        refine wpAnyH_take (i := 2) (v := .int .i64 ((pl + 1 : Nat) : Int)) rfl (by kernel_rfl) (by kernel_rfl) (by kernel_rfl) (fun _ _ _ h => h) (Or.inl ⟨by rfl, fun w hS => by (go_simp) <;> first | rfl | assumption | (intro hh; exfalso; omega) | (exact (i64_wraps _ (by omega) (by omega)).trans (by omega)) | omega⟩) hHeld ?_
        simp only [Act.put, List.setIfInBounds_toArray, List.set_cons_zero, List.set_cons_succ, List.getElem_toArray, List.getElem_cons_zero, List.getElem_cons_succ]
        refine wpAnyH_take (i := 3) (v := .int .u8 (byN s (pl + 1))) rfl (by kernel_rfl) (by kernel_rfl) (by kernel_rfl) (fun _ _ _ h => h) (Or.inl ⟨by rfl, fun w hS => by (go_simp) <;> first | rfl | assumption | (intro hh; exfalso; omega) | (exact (i64_wraps _ (by omega) (by omega)).trans (by omega)) | omega⟩) hHeld ?_
        simp only [Act.put, List.setIfInBounds_toArray, List.set_cons_zero, List.set_cons_succ, List.getElem_toArray, List.getElem_cons_zero, List.getElem_cons_succ]
        refine wpAnyH_take (i := 4) (v := .pointer (some ⟨d + 1, 4, none⟩)) rfl (by kernel_rfl) (by kernel_rfl) (by kernel_rfl) (fun _ _ _ h => h) (Or.inl ⟨by rfl, fun w hS => by (go_simp) <;> first | rfl | assumption | (intro hh; exfalso; omega) | (exact (i64_wraps _ (by omega) (by omega)).trans (by omega)) | omega⟩) hHeld ?_
        simp only [Act.put, List.setIfInBounds_toArray, List.set_cons_zero, List.set_cons_succ, List.getElem_toArray, List.getElem_cons_zero, List.getElem_cons_succ]
        refine wpAnyH_take (i := 5) (v := .int .i64 dp) rfl (by kernel_rfl) (by kernel_rfl) (by kernel_rfl) (fun _ _ _ h => h) (Or.inl ⟨by rfl, fun w hS => by (have hc : w.cell? ⟨d + 1, 4, none⟩ = some (.int .i64 dp) := (hS.cell (b := d + 1) (o := 4) (by omega) (fun h => h)).trans ((O4.out.cell 4).trans rfl); go_simp)⟩) hHeld ?_
        simp only [Act.put, List.setIfInBounds_toArray, List.set_cons_zero, List.set_cons_succ, List.getElem_toArray, List.getElem_cons_zero, List.getElem_cons_succ]
        refine wpAnyH_take (i := 6) (v := .int .i64 (i : Int)) rfl (by kernel_rfl) (by kernel_rfl) (by kernel_rfl) (fun _ _ _ h => h) (Or.inl ⟨by rfl, fun w hS => by (go_simp) <;> first | rfl | assumption | (intro hh; exfalso; omega) | (exact (i64_wraps _ (by omega) (by omega)).trans (by omega)) | omega⟩) hHeld ?_
        simp only [Act.put, List.setIfInBounds_toArray, List.set_cons_zero, List.set_cons_succ, List.getElem_toArray, List.getElem_cons_zero, List.getElem_cons_succ]
        have hS := (Chg.refl (fun _ => False) wr).drew
        generalize World.drew _ = wk at hS ⊢
        refine wpAnyH_ready (rs := [7]) (by kernel_rfl) (by simp) ?_
        refine AllReadyH.cons (o := _) rfl (fun K' hK => ?_) AllReadyH.nil
        rw [if_pos (by rfl)]
        go_simp
        refine (HEN.out _).mono ?_
        rintro x5 w5 ⟨rfl, rfl⟩
        obtain ⟨wk, rfl⟩ : ∃ z, z = w5 := ⟨_, rfl⟩
        go_wp2_with fail
        refine hK _ _ hS (fun hH1 => ?_)
        clear hK K'
        refine wpAnyH_take (i := 8) (v := .int .i64 (k : Int)) rfl (by kernel_rfl) (by kernel_rfl) (by kernel_rfl) (fun _ _ _ h => h) (Or.inl ⟨by rfl, fun w hS => by (go_simp) <;> first | rfl | assumption | (intro hh; exfalso; omega) | (exact (i64_wraps _ (by omega) (by omega)).trans (by omega)) | omega⟩) hH1 ?_
        simp only [Act.put, List.setIfInBounds_toArray, List.set_cons_zero, List.set_cons_succ, List.getElem_toArray, List.getElem_cons_zero, List.getElem_cons_succ]
        refine wpAnyH_done (by kernel_rfl) ?_ _
        refine NoPanic.normal ?_
        have hchk := BB.out.trans (hS.below (B := d + 1 + 1 + 1) (by omega) (fun _ h => h.elim))
        have hsz5 := hS.size
        by_cases hkM : k < M
        · have hkt : (entR (byN s (pl + 1)) dp i).toNat = k := by rw [HK.out]; rfl
          obtain ⟨c0, c1, c2, c3, hck⟩ : ∃ c0 c1 c2 c3, pxC tb k = [c0, c1, c2, c3] := four_of (pxC_len tb M k htb hkM)
          have HR1 := Lib.hid (show runP tb M (byN s (pl + 1)) dp pl (i + 1) = .ok (ps ++ [c0, c1, c2, c3]) by rw [runP, HPS.out]; dsimp only; rw [hkt, if_pos hkM, hck])
          have HCK := Lib.hid (range_chg (range_part (L2 := [c0, c1, c2, c3]) HTR.out (k * 4) (fun j v hv => by
            rw [← hck] at hv; unfold pxC at hv; rw [List.getElem?_take] at hv
            split at hv
            · rw [List.getElem?_drop] at hv; rw [Nat.mul_comm]; exact hv
            · cases hv)) hS (by omega) (fun h => h))
          rw [Nat.zero_add] at HCK
          have HC1 := Lib.hid (show ∀ u ∈ [c0, c1, c2, c3], u.oneCell' = true by rw [← hck]; exact pxC_all HT1.out)
          have HOW := Lib.hid (owns_down (B := wr.heap.size) OW.out (hS.below (Nat.le_refl _) (fun _ h => h.elim)) (fun g hg => (owns_blk OW.out hg).2))
          have hp5 := (owns_blk (g := d) OW.out)
          clear hkt hck hk0 HEN hp5
          go_wp2_with (first
            | (refine load_r rfl 41 _ rfl gt (k * 4) [c0, c1, c2, c3] rfl HCK.out Try.underlying41 rfl (by kernel_rfl) ?_; intro _)
            | (at_builtin; refine appS rfl (.tmp 56) (.tmp 61) 33 rfl (d + 1 + 1 + 1) 41 (.agg #[.int .u8 0, .int .u8 0, .int .u8 0, .int .u8 0]) 4 4 Try.underlying33 (by kernel_rfl) rfl (by decide) _ _ _ rfl HOW.out [c0, c1, c2, c3] HC1.out rfl _ rfl (by omega) (by unfold maxLen; omega) (by omega) ?_; intro v' w1 hown1 hB1 hz1; have O1 := Lib.hid hown1; have B1 := Lib.hid hB1; clear hown1 hB1))
          go_roundw
          case rel => exact ⟨i + 1, ps ++ [c0, c1, c2, c3], by omega, by go_num, HR1.out, O1.out, B1.out w3 hchk⟩
          case measure => simp [intOf]; omega
        · as_aux_lemma =>
            have hkt : (entR (byN s (pl + 1)) dp i).toNat = k := by rw [HK.out]; rfl
            have h5 : runP tb M (byN s (pl + 1)) dp pl (i + 1) = .error (2, (pl : Int) + 1) := by rw [runP, HPS.out]; dsimp only; rw [hkt, if_neg hkM]
            have h6 := runP_err tb M (byN s (pl + 1)) dp pl (i + 1) (n - (i + 1)) _ h5
            rw [show i + 1 + (n - (i + 1)) = n by omega] at h6
            rw [h6] at HRE
            have HRE := Lib.hid (show R = .error (2, (pl : Int) + 1) from HR.out.symm.trans HRE.out)
            have hb5 : Below wr.heap.size wr wk := hS.below (Nat.le_refl _) (fun _ h => h.elim)
            have O3 := Lib.hid (O3.out.below hb5 O3.out.lt)
            have O5 := Lib.hid (O5.out.below hb5 O5.out.lt)
            have BL := Lib.hid (bthen hchk BL.out (by omega))
            clear h5 h6 hkt hb5
            go_wp2_with (first
              | (refine load_u (by kernel_rfl) 79 6 _ rfl d [.int .i64 x, .int .i64 y, .int .i64 pl, .slice (some ⟨gL, 0, none⟩) N cL, .int .i64 0, .int .i64 0] rfl rfl O3.out Try.underlying79 rfl (by kernel_rfl) ?_; intro _)
              | ((go_at_call 86; (with_reducible refine (HBD.out _ 2 ((pl : Int) + 1)).mono ?_); rintro e wb ⟨rfl, hb⟩); have O5 := Lib.hid (O5.out.below hb O5.out.lt); have BL := Lib.hid (bthen hb BL.out (by omega)); clear hb)
              | (refine store_o rfl 79 6 _ _ rfl (d + 1 + 1) [.int .i64 x, .int .i64 y, .int .i64 pl, .slice (some ⟨gL, 0, none⟩) N cL, .int .i64 2, .int .i64 ((pl : Int) + 1)] rfl rfl (by kernel_rfl) (by kernel_rfl) (by kernel_rfl) O5.out (by first | rfl | simp) ?_; intro ws hst hO; have O5 := Lib.hid hO; have BL := Lib.hid (hst.below BL.out (by omega)); clear hst hO))
            refine bodyPost_ret (v := .agg (List.toArray [.int .i64 x, .int .i64 y, .int .i64 pl, .slice (some ⟨gL, 0, none⟩) N cL, .int .i64 2, .int .i64 ((pl : Int) + 1)])) ?_ rfl ?_
            · exact results_c Try.results49 _ _ _ [.int .i64 x, .int .i64 y, .int .i64 pl, .slice (some ⟨gL, 0, none⟩) N cL, .int .i64 2, .int .i64 ((pl : Int) + 1)] _ rfl O5.out.range0 Try.underlying79 rfl (by kernel_rfl)
            · rw [show R = .error (2, ((pl : Int) + 1)) from HRE.out]
              exact ⟨_, by rfl, by rw [HD0.out]; exact BL.out⟩
end Go.Proofs.Ytlhcjnjajkfahaa


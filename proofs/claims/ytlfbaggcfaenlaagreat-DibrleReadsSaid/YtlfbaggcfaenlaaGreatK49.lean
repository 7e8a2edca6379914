/- The reference of layer 22: Read, walked. -/
import Derived.Test.YtlfbaggcfaenlaaGreatK48
import Derived.Test.YtlfbaggcfaenlaaGreatK2
import Derived.Test.YtlfbaggcfaenlaaGreatK0
namespace Go.Proofs.YtlfbaggcfaenlaaGreat
open Go.RowKit
set_option linter.unusedVariables false
set_option linter.unusedSimpArgs false
theorem idx_at (s : ByteArray) (i : Int) (n : Nat) (v : Int) (hi : i = n) (hn : n < s.size) (hv : byN s n = v) {w : World} (Y : Result Value) :
    ((if h : 0 ≤ i ∧ i < s.size then Result.ok (Value.int .u8 ((s[i.toNat]'(by omega)).toNat : Int)) w else Y).andThen fun a w' => Result.ok (Next.value a) w') = Result.ok (Next.value (.int .u8 v)) w := by
  subst hi
  rw [dif_pos ⟨by omega, by omega⟩, ← hv, ← byN_get s n hn]
  rfl
def zC (N : Nat) : List Value := (madeCells #[.int .u8 0, .int .u8 0, .int .u8 0, .int .u8 0] (N * 4)).toList
theorem zC_len (N : Nat) : (zC N).length = 4 * N := by
  unfold zC madeCells; simp [Nat.mul_comm]
theorem zC_get (N i : Nat) (h : i < 4 * N) : (zC N)[i]? = some (.int .u8 0) := by
  have h2 : i < N * 4 := by omega
  have h3 : i % 4 < 4 := Nat.mod_lt _ (by decide)
  have key : ∀ j, j < 4 → (#[Value.int .u8 0, .int .u8 0, .int .u8 0, .int .u8 0] : Array Value)[j]! = .int .u8 0 := by
    intro j hj
    match j, hj with
    | 0, _ => rfl
    | 1, _ => rfl
    | 2, _ => rfl
    | 3, _ => rfl
  unfold zC madeCells
  rw [Array.getElem?_toList, Array.getElem?_map, Array.getElem?_range]
  simp only [h2, if_true, Option.map_some]
  exact congrArg some (key _ h3)
theorem zC_all (N : Nat) : ∀ u ∈ zC N, u.oneCell' = true := by
  intro u hu
  obtain ⟨i, hi, rfl⟩ := List.getElem_of_mem hu
  have h := zC_get N i (by rw [← zC_len N]; exact hi)
  rw [List.getElem?_eq_getElem hi] at h
  injection h with h
  rw [h]; rfl
theorem mkC (w : World) (N : Nat) (hN : N ≤ 1600) : (Instr.makeSlice 54 (.int .i64 N) (.int .i64 N)).run Tryz.prog w = .ok (.slice (some ⟨w.heap.size, 0, none⟩) N N) (w.alloc (.cells (zC N).toArray 185)) := by
  obtain ⟨i, hi, hz0, hz1, hz2⟩ := info_parts (P := Tryz.prog) (e := 185) (z := .agg #[.int .u8 0, .int .u8 0, .int .u8 0, .int .u8 0]) (size := 4) (bytes := 4) (by kernel_rfl)
  have hr := run_make (P := Tryz.prog) w 54 185 i _ Tryz.underlying54 hi hz0 .i64 .i64 N N (by omega) (Int.le_refl _) (by rw [hz2]; omega) (by omega)
  rw [hr, hz1]
  simp [zC]
  rfl
theorem run22_kind {s : ByteArray} {tb : List Value} {M W H : Nat} {d : Int} {σ : S22} {n : Nat} {e : Int × Int} (h : run22 s tb M W H d σ n = .error e) : e.1 ≠ 0 := by
  unfold run22 at h
  by_cases h1 : H ≤ σ.y ∨ W < σ.x + n
  · rw [if_pos h1] at h; injection h with h; rw [← h]; show (2 : Int) ≠ 0; decide
  rw [if_neg h1] at h
  have key : ∀ n e, runP tb M (byN s (σ.pl + 1)) d σ.pl n = .error e → e.1 ≠ 0 := by
    intro n
    induction n with
    | zero => intro e h; rw [runP] at h; cases h
    | succ n ih =>
      intro e h
      rw [runP] at h
      cases hr : runP tb M (byN s (σ.pl + 1)) d σ.pl n with
      | error e2 => rw [hr] at h; injection h with h; rw [← h]; exact ih e2 hr
      | ok p =>
        rw [hr] at h; dsimp only at h
        by_cases hk : (entR (byN s (σ.pl + 1)) d n).toNat < M
        · rw [if_pos hk] at h; cases h
        · rw [if_neg hk] at h; injection h with h; rw [← h]; show (2 : Int) ≠ 0; decide
  cases hr : runP tb M (byN s (σ.pl + 1)) d σ.pl n with
  | error e2 => rw [hr] at h; injection h with h; rw [← h]; exact key n e2 hr
  | ok p => rw [hr] at h; cases h
theorem plain22_kind {s : ByteArray} {tb : List Value} {M W H : Nat} {d : Int} {te : Nat} {σ : S22} {n : Nat} {e : Int × Int} (h : plain22 s tb M W H d te σ n = .error e) : e.1 ≠ 0 := by
  unfold plain22 at h
  by_cases h1 : H ≤ σ.y ∨ W < σ.x + n
  · rw [if_pos h1] at h; injection h with h; rw [← h]; show (2 : Int) ≠ 0; decide
  rw [if_neg h1] at h
  have key : ∀ n e, plainP s tb M d σ.pl te n = .error e → e.1 ≠ 0 := by
    intro n
    induction n with
    | zero => intro e h; rw [plainP] at h; cases h
    | succ n ih =>
      intro e h
      rw [plainP] at h
      cases hr : plainP s tb M d σ.pl te n with
      | error e2 => rw [hr] at h; injection h with h; rw [← h]; exact ih e2 hr
      | ok p =>
        rw [hr] at h; dsimp only at h
        by_cases hb : te ≤ σ.pl + 2 + n / (8 / d).toNat
        · rw [if_pos hb] at h; injection h with h; rw [← h]; show (1 : Int) ≠ 0; decide
        rw [if_neg hb] at h
        by_cases hk : (entR (byN s (σ.pl + 2 + n / (8 / d).toNat)) d n).toNat < M
        · rw [if_pos hk] at h; cases h
        · rw [if_neg hk] at h; injection h with h; rw [← h]; show (2 : Int) ≠ 0; decide
  cases hr : plainP s tb M d σ.pl te n with
  | error e2 => rw [hr] at h; injection h with h; rw [← h]; exact key n e2 hr
  | ok p =>
    rw [hr] at h; dsimp only at h
    by_cases hz : te < σ.pl + 2 + sizeP d n + sizeP d n % 2
    · rw [if_pos hz] at h; injection h with h; rw [← h]; show (1 : Int) ≠ 0; decide
    · rw [if_neg hz] at h; cases h
def Read22Post (w : World) (W H N : Nat) (R : E22 (List Value)) (e : Ending) (w' : World) : Prop :=
  match R with
  | .error ka => e = .returned (.agg (List.toArray (bad13 ka.1 ka.2))) ∧ Below w.heap.size w w'
  | .ok L => ∃ g cap, e = .returned (.agg (List.toArray [.int .i64 W, .int .i64 H, .slice (some ⟨g, 0, none⟩) N cap, .int .i64 0, .int .i64 0])) ∧ w'.ownsRow w.heap.size 185 4 (.slice (some ⟨g, 0, none⟩) N cap) N L ∧ Below w.heap.size w w'
set_option maxRecDepth 100000 in
set_option maxHeartbeats 16000000 in
theorem read22_any (sz : Int) (W H : Nat) (top : Bool) (dp mt co r g b q fr en : Int) (s : ByteArray) (pl te N M gt ct bt f0 : Nat) (tb : List Value) (w : World) (hN : N = W * H) (hW : W ≤ 40) (hH : H ≤ 40) (hW1 : 1 ≤ W) (hH1 : 1 ≤ H) (hM : M ≤ 256) (hpl : pl ≤ te) (hte : te ≤ s.size) (hs : s.size ≤ 100000) (hf0 : te < pl + f0)
    (hdp : dp = 4 ∨ dp = 8) (ht : w.ownsRow bt 185 4 (.slice (some ⟨gt, 0, none⟩) M ct) M tb) (ht1 : ∀ u ∈ tb, u.oneCell' = true) :
    Calls Tryz.prog 25 #[.string s, .int .i64 pl, .int .i64 te, .agg (List.toArray [.int .i64 sz, .int .i64 W, .int .i64 H, .bool top, .int .i64 dp, .int .i64 mt, .int .i64 co, .int .i64 r, .int .i64 g, .int .i64 b, .int .i64 q, .int .i64 fr, .int .i64 en, .int .i64 0, .int .i64 0]), .slice (some ⟨gt, 0, none⟩) M ct] w (Read22Post w W H N (rle22 s tb M W H dp te f0 ⟨0, 0, pl, zC N⟩)) := by
  obtain ⟨d, hd⟩ : ∃ d, w.heap.size = d := ⟨_, rfl⟩
  have lt := (owns_lt ht).2
  have htb : tb.length = 4 * M := by have := ht.1; omega
  rw [hd] at lt
  have hN16 : N ≤ 1600 := by rw [hN]; exact Nat.mul_le_mul hW hH
  have hN1 : 1 ≤ N := by rw [hN]; exact Nat.mul_le_mul hW1 hH1
  have eWH : (W : Int) * (H : Int) = (N : Int) := by rw [hN]; exact (Int.natCast_mul W H).symm
  have HTB := Hi ht
  have HT1 := Hi ht1
  have HN := Hi hN
  have HDP := Hi hdp
  have HBD := Hi (fun w0 (k a : Int) => (show Calls Tryz.prog 93 #[.int .i64 k, .int .i64 a] w0 (fun e w' => e = .returned (.agg (List.toArray [.int .i64 0, .int .i64 0, .slice none 0 0, .int .i64 k, .int .i64 a])) ∧ Below w0.heap.size w0 w') from bad13_any k a w0))
  clear ht ht1 hN hdp
  have hg0 : Good22 W H te ⟨0, 0, pl, zC N⟩ := ⟨Nat.zero_le _, Nat.zero_le _, hpl, by rw [← HN.out]; exact zC_len N, zC_all N⟩
  obtain ⟨R, hR⟩ : ∃ R, rle22 s tb M W H dp te f0 ⟨0, 0, pl, zC N⟩ = R := ⟨_, rfl⟩
  rw [hR]
  have HR := Hi hR
  have HG0 := Hi hg0
  have HM := fun w0 => mkC w0 N hN16
  have HD0 := Hi hd
  clear hR hg0
  have OH := Hi ((obj1_new w (List.toArray [.int .i64 sz, .int .i64 W, .int .i64 H, .bool top, .int .i64 dp, .int .i64 mt, .int .i64 co, .int .i64 r, .int .i64 g, .int .i64 b, .int .i64 q, .int .i64 fr, .int .i64 en, .int .i64 0, .int .i64 0]) 52).alloc (.cells (List.toArray [.int .i64 0, .int .i64 0, .slice none 0 0, .int .i64 0, .int .i64 0]) 59))
  have OR := Hi (obj1_new (w.alloc (.cells (List.toArray [.int .i64 sz, .int .i64 W, .int .i64 H, .bool top, .int .i64 dp, .int .i64 mt, .int .i64 co, .int .i64 r, .int .i64 g, .int .i64 b, .int .i64 q, .int .i64 fr, .int .i64 en, .int .i64 0, .int .i64 0]) 52)) (List.toArray [.int .i64 0, .int .i64 0, .slice none 0 0, .int .i64 0, .int .i64 0]) 59)
  rw [show (w.alloc (.cells (List.toArray [.int .i64 sz, .int .i64 W, .int .i64 H, .bool top, .int .i64 dp, .int .i64 mt, .int .i64 co, .int .i64 r, .int .i64 g, .int .i64 b, .int .i64 q, .int .i64 fr, .int .i64 en, .int .i64 0, .int .i64 0]) 52)).heap.size = d + 1 by rw [← hd]; simp] at OR
  rw [hd] at OH
  have BL := Hi (((Below.refl w.heap.size w).alloc (Nat.le_refl _) (.cells (List.toArray [.int .i64 sz, .int .i64 W, .int .i64 H, .bool top, .int .i64 dp, .int .i64 mt, .int .i64 co, .int .i64 r, .int .i64 g, .int .i64 b, .int .i64 q, .int .i64 fr, .int .i64 en, .int .i64 0, .int .i64 0]) 52)).alloc (by simp) (.cells (List.toArray [.int .i64 0, .int .i64 0, .slice none 0 0, .int .i64 0, .int .i64 0]) 59))
  have hz3 : ((w.alloc (.cells (List.toArray [.int .i64 sz, .int .i64 W, .int .i64 H, .bool top, .int .i64 dp, .int .i64 mt, .int .i64 co, .int .i64 r, .int .i64 g, .int .i64 b, .int .i64 q, .int .i64 fr, .int .i64 en, .int .i64 0, .int .i64 0]) 52)).alloc (.cells (List.toArray [.int .i64 0, .int .i64 0, .slice none 0 0, .int .i64 0, .int .i64 0]) 59)).heap.size = d + 1 + 1 := by rw [← hd]; simp
  rw [hd] at BL
  go_enter Tryz.func25, Tryz.ntmps25
  go_upto_region 1 with (fail)
  clear hd
  generalize World.alloc _ _ = w3 at OH OR BL hz3 ⊢
  have c41 : w3.cell? ⟨d, 1, none⟩ = some (.int .i64 W) := (OH.out.cell 1).trans rfl
  have c42 : w3.cell? ⟨d, 2, none⟩ = some (.int .i64 H) := (OH.out.cell 2).trans rfl
  have ZZ : (w3.alloc (.cells (zC N).toArray 185)).heap.size = d + 1 + 1 + 1 := by simp; omega
  have ZL : (zC N).length = N * 4 := by rw [zC_len]; omega
  have lw3 : d + 1 < w3.heap.size := OR.out.lt
  have OW := Hi ((owns_obj (base := d + 1 + 1) (n := N) (size := 4) (obj1_new w3 (zC N).toArray 185) (by omega) (by unfold maxLen; omega) ZL).alloc (.cells #[.int .i64 0, .int .i64 0, .int .i64 0, .slice none 0 0, .int .i64 0, .int .i64 0] 168))
  rw [hz3] at OW
  have OS := Hi (obj1_new (w3.alloc (.cells (zC N).toArray 185)) #[.int .i64 0, .int .i64 0, .int .i64 0, .slice none 0 0, .int .i64 0, .int .i64 0] 168)
  rw [ZZ] at OS
  have OH := Hi ((OH.out.alloc (.cells (zC N).toArray 185)).alloc (.cells #[.int .i64 0, .int .i64 0, .int .i64 0, .slice none 0 0, .int .i64 0, .int .i64 0] 168))
  have OR := Hi ((OR.out.alloc (.cells (zC N).toArray 185)).alloc (.cells #[.int .i64 0, .int .i64 0, .int .i64 0, .slice none 0 0, .int .i64 0, .int .i64 0] 168))
  have BL := Hi ((BL.out.alloc (by omega) (.cells (zC N).toArray 185)).alloc (by simp; omega) (.cells #[.int .i64 0, .int .i64 0, .int .i64 0, .slice none 0 0, .int .i64 0, .int .i64 0] 168))
  have HZZ := Hi ZZ
  clear ZL
  go_wp2_with (refine store_o rfl 168 6 _ _ rfl (d + 1 + 1 + 1) [.int .i64 0, .int .i64 0, .int .i64 pl, .slice (some ⟨d + 1 + 1, 0, none⟩) N N, .int .i64 0, .int .i64 0] rfl rfl (by kernel_rfl) (by kernel_rfl) (by kernel_rfl) OS.out (by first | rfl | simp) ?_; intro w1 hst hO; have OS := Hi hO; have OH := Hi (hst.oth OH.out (by omega)); have OR := Hi (hst.oth OR.out (by omega)); have OW := Hi (hst.owns OW.out (by omega)); have BL := Hi (hst.below BL.out (by omega)); clear hst hO)
  clear c41 c42 HM hz3 ZZ
  go_frame
  go_loopw [] (fun wr => ∃ (σ : S22) (f gL cL : Nat), Good22 W H te σ ∧ te < σ.pl + f ∧ rle22 s tb M W H dp te f σ = R ∧ Obj1 wr (d + 1 + 1 + 1) (List.toArray [.int .i64 σ.x, .int .i64 σ.y, .int .i64 σ.pl, .slice (some ⟨gL, 0, none⟩) N cL, .int .i64 0, .int .i64 0]) 168 ∧ wr.ownsRow (d + 1 + 1) 185 4 (.slice (some ⟨gL, 0, none⟩) N cL) N σ.L ∧ gL ≠ d + 1 + 1 + 1 ∧
    Obj1 wr d (List.toArray [.int .i64 sz, .int .i64 W, .int .i64 H, .bool top, .int .i64 dp, .int .i64 mt, .int .i64 co, .int .i64 r, .int .i64 g, .int .i64 b, .int .i64 q, .int .i64 fr, .int .i64 en, .int .i64 0, .int .i64 0]) 52 ∧ Obj1 wr (d + 1) (List.toArray [.int .i64 0, .int .i64 0, .slice none 0 0, .int .i64 0, .int .i64 0]) 59 ∧ Below d w wr) (fun wr => te + 1 - (intOf ((wr.cell? ⟨d + 1 + 1 + 1, 2, none⟩).getD undef)).toNat)
  case atStart => exact ⟨⟨0, 0, pl, zC N⟩, f0, d + 1 + 1, N, HG0.out, hf0, HR.out, OS.out, OW.out, by omega, OH.out, OR.out, BL.out⟩
  case round =>
    obtain ⟨⟨x, y, p, L⟩, f, gL, cL, hgood, hf, hrl, hOS, hOW, hgL, hOH, hOR, hBL⟩ := hrel
    dsimp only at hf hOS hOW
    have OS := Hi hOS
    have OW := Hi hOW
    have OH := Hi hOH
    have OR := Hi hOR
    have BL := Hi hBL
    have HGOOD := Hi hgood
    have hx := hgood.1
    have hy := hgood.2.1
    have hp := hgood.2.2.1
    dsimp only at hx hy hp
    have hm0 : intOf ((wr.cell? ⟨d + 1 + 1 + 1, 2, none⟩).getD undef) = (p : Int) := by rw [hOS.cell 2]; rfl
    rw [hm0, Int.toNat_natCast]
    have hzw := hOS.lt
    have hgl1 := owns_lt hOW
    have HRL := Hi hrl
    clear hOS hOW hOH hOR hBL hm0 hgood hrl
    match f, hf with
    | 0, hf => omega
    | f + 1, hf =>
    have cp := (OS.out.cell 2).trans (show _ = some (.int .i64 (p : Int)) from rfl)
    by_cases hout : te < p + 2
    · as_aux_lemma =>
        have HRE := Hi (show R = .error (1, (te : Int)) by rw [← HRL.out, rle22, if_pos hout])
        go_wp2_with (first
          | ((with_reducible refine skip_g rfl ?_ ?_); rfl; intro _)
          | ((go_at_call 93; (with_reducible refine (HBD.out _ 1 te).mono ?_); rintro e wb ⟨rfl, hb⟩); have OR := Hi (OR.out.below hb OR.out.lt); have BL := Hi (bthen hb BL.out (by omega)); clear hb)
          | (refine store_o rfl 59 5 _ _ rfl (d + 1) [.int .i64 0, .int .i64 0, .slice none 0 0, .int .i64 1, .int .i64 te] rfl rfl (by kernel_rfl) (by kernel_rfl) (by kernel_rfl) OR.out (by first | rfl | simp) ?_; intro ws hst hO; have OR := Hi hO; have BL := Hi (hst.below BL.out (by omega)); clear hst hO))
        refine bodyPost_ret (v := .agg (List.toArray [.int .i64 0, .int .i64 0, .slice none 0 0, .int .i64 1, .int .i64 te])) ?_ rfl ?_
        · exact results_c Tryz.results25 _ _ _ [.int .i64 0, .int .i64 0, .slice none 0 0, .int .i64 1, .int .i64 te] _ rfl OR.out.range0 Tryz.underlying59 rfl (by kernel_rfl)
        · rw [show R = .error (1, te) from HRE.out]
          exact ⟨by rfl, by rw [HD0.out]; exact BL.out⟩
    · have hps : p + 1 < s.size := by omega
      have hn0 := byN_bd s p
      have hv0 := byN_bd s (p + 1)
      have hgn := byN_get s p (by omega)
      have hgv := byN_get s (p + 1) hps
      obtain ⟨n, hn⟩ : ∃ n : Nat, byN s p = n := ⟨(byN s p).toNat, by omega⟩
      obtain ⟨v, hv⟩ : ∃ v : Nat, byN s (p + 1) = v := ⟨(byN s (p + 1)).toNat, by omega⟩
      rw [hn] at hn0 hgn
      rw [hv] at hv0 hgv
      have HNB := Hi hn
      have HVB := Hi hv
      have HRL := Hi (show (if byN s p = 0 ∧ byN s (p + 1) = 1 then (Except.ok L : E22 (List Value)) else match step22 s tb M W H dp te ⟨x, y, p, L⟩ with
        | .error e => .error e
        | .ok τ => rle22 s tb M W H dp te f τ) = R by rw [← HRL.out, rle22, if_neg hout]; rfl)
      clear hn hv
      go_upto_region 4 with (fail)
      refine wp_region_noPanic ?_
      refine wp_region_held_drew (S := fun w' => Chg (fun _ => False) wr w') (by kernel_rfl) (Chg.refl _ _).drew (fun hHeld => ?_)
      refine wpAnyH_take (i := 0) (v := .string s) rfl (by kernel_rfl) (by kernel_rfl) (by kernel_rfl) (fun _ _ _ h => h) (Or.inl ⟨by rfl, fun w hS => by (go_simp) <;> first | rfl | assumption | (intro hh; exfalso; omega) | (exact (i64_wraps _ (by omega) (by omega)).trans (by omega)) | omega⟩) hHeld ?_
      simp only [Act.put, zq1, zq2, zq3, zq4, zq5, zq6]
      refine wpAnyH_take (i := 1) (v := .pointer (some ⟨d + 1 + 1 + 1, 2, none⟩)) rfl (by kernel_rfl) (by kernel_rfl) (by kernel_rfl) (fun _ _ _ h => h) (Or.inl ⟨by rfl, fun w hS => by (go_simp) <;> first | rfl | assumption | (intro hh; exfalso; omega) | (exact (i64_wraps _ (by omega) (by omega)).trans (by omega)) | omega⟩) hHeld ?_
      simp only [Act.put, zq1, zq2, zq3, zq4, zq5, zq6]
      refine wpAnyH_take (i := 2) (v := .int .i64 (p : Int)) rfl (by kernel_rfl) (by kernel_rfl) (by kernel_rfl) (fun _ _ _ h => h) (Or.inl ⟨by rfl, fun w hS => by (have hc : w.cell? ⟨d + 1 + 1 + 1, 2, none⟩ = some (.int .i64 (p : Int)) := (hS.cell (b := d + 1 + 1 + 1) (o := 2) (by omega) (fun h => h)).trans ((OS.out.cell 2).trans rfl); go_simp)⟩) hHeld ?_
      simp only [Act.put, zq1, zq2, zq3, zq4, zq5, zq6]
      refine wpAnyH_take (i := 3) (v := .int .u8 (n : Int)) rfl (by kernel_rfl) (by kernel_rfl) (by kernel_rfl) (fun _ _ _ h => h) (Or.inl ⟨by rfl, fun w hS => by (go_simp) <;> first | rfl | assumption | (intro hh; exfalso; omega) | (exact (i64_wraps _ (by omega) (by omega)).trans (by omega)) | omega⟩) hHeld ?_
      simp only [Act.put, zq1, zq2, zq3, zq4, zq5, zq6]
      refine wpAnyH_take (i := 4) (v := .int .i64 (n : Int)) rfl (by kernel_rfl) (by kernel_rfl) (by kernel_rfl) (fun _ _ _ h => h) (Or.inl ⟨by rfl, fun w hS => by (go_simp) <;> first | rfl | assumption | (intro hh; exfalso; omega) | (exact (i64_wraps _ (by omega) (by omega)).trans (by omega)) | omega⟩) hHeld ?_
      simp only [Act.put, zq1, zq2, zq3, zq4, zq5, zq6]
      refine wpAnyH_take (i := 5) (v := .string s) rfl (by kernel_rfl) (by kernel_rfl) (by kernel_rfl) (fun _ _ _ h => h) (Or.inl ⟨by rfl, fun w hS => by (go_simp) <;> first | rfl | assumption | (intro hh; exfalso; omega) | (exact (i64_wraps _ (by omega) (by omega)).trans (by omega)) | omega⟩) hHeld ?_
      simp only [Act.put, zq1, zq2, zq3, zq4, zq5, zq6]
      refine wpAnyH_take (i := 6) (v := .pointer (some ⟨d + 1 + 1 + 1, 2, none⟩)) rfl (by kernel_rfl) (by kernel_rfl) (by kernel_rfl) (fun _ _ _ h => h) (Or.inl ⟨by rfl, fun w hS => by (go_simp) <;> first | rfl | assumption | (intro hh; exfalso; omega) | (exact (i64_wraps _ (by omega) (by omega)).trans (by omega)) | omega⟩) hHeld ?_
      simp only [Act.put, zq1, zq2, zq3, zq4, zq5, zq6]
      refine wpAnyH_take (i := 7) (v := .int .i64 (p : Int)) rfl (by kernel_rfl) (by kernel_rfl) (by kernel_rfl) (fun _ _ _ h => h) (Or.inl ⟨by rfl, fun w hS => by (have hc : w.cell? ⟨d + 1 + 1 + 1, 2, none⟩ = some (.int .i64 (p : Int)) := (hS.cell (b := d + 1 + 1 + 1) (o := 2) (by omega) (fun h => h)).trans ((OS.out.cell 2).trans rfl); go_simp)⟩) hHeld ?_
      simp only [Act.put, zq1, zq2, zq3, zq4, zq5, zq6]
      refine wpAnyH_take (i := 8) (v := .int .i64 ((p : Int) + 1)) rfl (by kernel_rfl) (by kernel_rfl) (by kernel_rfl) (fun _ _ _ h => h) (Or.inl ⟨by rfl, fun w hS => by (go_simp) <;> first | rfl | assumption | (intro hh; exfalso; omega) | (exact (i64_wraps _ (by omega) (by omega)).trans (by omega)) | omega⟩) hHeld ?_
      simp only [Act.put, zq1, zq2, zq3, zq4, zq5, zq6]
      refine wpAnyH_take (i := 9) (v := .int .u8 (v : Int)) rfl (by kernel_rfl) (by kernel_rfl) (by kernel_rfl) (fun _ _ _ h => h) (Or.inl ⟨by rfl, fun w hS => by (go_simp) <;> first | rfl | assumption | (intro hh; exfalso; omega) | (exact (i64_wraps _ (by omega) (by omega)).trans (by omega)) | omega⟩) hHeld ?_
      simp only [Act.put, zq1, zq2, zq3, zq4, zq5, zq6]
      refine wpAnyH_take (i := 10) (v := .int .i64 (v : Int)) rfl (by kernel_rfl) (by kernel_rfl) (by kernel_rfl) (fun _ _ _ h => h) (Or.inl ⟨by rfl, fun w hS => by (go_simp) <;> first | rfl | assumption | (intro hh; exfalso; omega) | (exact (i64_wraps _ (by omega) (by omega)).trans (by omega)) | omega⟩) hHeld ?_
      simp only [Act.put, zq1, zq2, zq3, zq4, zq5, zq6]
      refine wpAnyH_take (i := 11) (v := .int .i64 (n : Int)) rfl (by kernel_rfl) (by kernel_rfl) (by kernel_rfl) (fun _ _ _ h => h) (Or.inl ⟨by rfl, fun w hS => by (go_simp) <;> first | rfl | assumption | (intro hh; exfalso; omega) | (exact (i64_wraps _ (by omega) (by omega)).trans (by omega)) | omega⟩) hHeld ?_
      simp only [Act.put, zq1, zq2, zq3, zq4, zq5, zq6]
      refine wpAnyH_take (i := 12) (v := .int .i64 (v : Int)) rfl (by kernel_rfl) (by kernel_rfl) (by kernel_rfl) (fun _ _ _ h => h) (Or.inl ⟨by rfl, fun w hS => by (go_simp) <;> first | rfl | assumption | (intro hh; exfalso; omega) | (exact (i64_wraps _ (by omega) (by omega)).trans (by omega)) | omega⟩) hHeld ?_
      simp only [Act.put, zq1, zq2, zq3, zq4, zq5, zq6]
      have hS := (Chg.refl (fun _ => False) wr).drew
      generalize World.drew _ = wk at hS ⊢
      refine wpAnyH_done (by kernel_rfl) ?_ _
      refine NoPanic.normal ?_
      have hb5 : Below wr.heap.size wr wk := hS.below (Nat.le_refl _) (fun _ h => h.elim)
      have OS := Hi (OS.out.below hb5 OS.out.lt)
      have OH := Hi (OH.out.below hb5 OH.out.lt)
      have OR := Hi (OR.out.below hb5 OR.out.lt)
      have OW := Hi (owns_down OW.out hb5 (fun g hg => (owns_blk OW.out hg).2))
      have BL := Hi (bthen hb5 BL.out (by omega))
      have hzw := OS.out.lt
      have hgl1 := owns_lt OW.out
      clear hb5 hS cp hgn hgv
      obtain ⟨wr, rfl⟩ : ∃ z, z = wk := ⟨_, rfl⟩
      have hcase : (n = 0 ∧ v = 1) ∨ (0 < n) ∨ (n = 0 ∧ 2 < v) ∨ (n = 0 ∧ v = 0) ∨ (n = 0 ∧ v = 2) := by omega
      rcases hcase with ⟨rfl, rfl⟩ | hn1 | ⟨rfl, hv2⟩ | ⟨rfl, rfl⟩ | ⟨rfl, rfl⟩
      · as_aux_lemma =>
          have HRE := Hi (show R = .ok L by rw [← HRL.out, if_pos ⟨HNB.out, HVB.out⟩])
          have cW := (OH.out.cell 1).trans (show _ = some (.int .i64 (W : Int)) from rfl)
          have cH := (OH.out.cell 2).trans (show _ = some (.int .i64 (H : Int)) from rfl)
          have cL3 := (OS.out.cell 3).trans (show _ = some (.slice (some ⟨gL, 0, none⟩) N cL) from rfl)
          go_wp2_with (first
            | (refine store_o rfl 59 5 _ _ rfl (d + 1) [.int .i64 W, .int .i64 H, .slice (some ⟨gL, 0, none⟩) N cL, .int .i64 0, .int .i64 0] rfl rfl (by kernel_rfl) (by kernel_rfl) (by kernel_rfl) OR.out (by first | rfl | simp) ?_; intro ws hst hO; have OR := Hi hO; have OW := Hi (hst.owns OW.out (by omega)); have BL := Hi (hst.below BL.out (by omega)); clear hst hO))
          refine bodyPost_ret (v := .agg (List.toArray [.int .i64 W, .int .i64 H, .slice (some ⟨gL, 0, none⟩) N cL, .int .i64 0, .int .i64 0])) ?_ rfl ?_
          · exact results_c Tryz.results25 _ _ _ [.int .i64 W, .int .i64 H, .slice (some ⟨gL, 0, none⟩) N cL, .int .i64 0, .int .i64 0] _ rfl OR.out.range0 Tryz.underlying59 rfl (by kernel_rfl)
          · rw [HRE.out]
            exact ⟨gL, cL, rfl, owns_keep OW.out (by rw [HD0.out]; omega) (fun _ _ _ => rfl), by rw [HD0.out]; exact BL.out⟩
      · have hnz : ((n : Int) == 0) = false := by rw [beq_eq_false_iff_ne]; omega
        have HRL := Hi (show (match run22 s tb M W H dp ⟨x, y, p, L⟩ n with
          | .error e => .error e
          | .ok τ => rle22 s tb M W H dp te f τ) = R by
            rw [← HRL.out, if_neg (by rw [HNB.out]; omega)]
            unfold step22
            rw [if_pos (by show 0 < byN s p; rw [HNB.out]; omega), show (byN s (S22.mk x y p L).pl).toNat = n by rw [HNB.out]; rfl])
        have hgd := HGOOD.out
        have HT := Hi (owns_down HTB.out BL.out (fun g hg => by
          have : gt = g := by simpa [Value.ownBlock] using hg
          omega))
        have HCALL := Hi (show Calls Tryz.prog 94 #[.agg (List.toArray [.int .i64 x, .int .i64 y, .int .i64 p, .slice (some ⟨gL, 0, none⟩) N cL, .int .i64 0, .int .i64 0]), .string s, .agg (List.toArray [.int .i64 sz, .int .i64 W, .int .i64 H, .bool top, .int .i64 dp, .int .i64 mt, .int .i64 co, .int .i64 r, .int .i64 g, .int .i64 b, .int .i64 q, .int .i64 fr, .int .i64 en, .int .i64 0, .int .i64 0]), .slice (some ⟨gt, 0, none⟩) M ct, .int .i64 n] wr (St22Post wr x y p N gL cL (run22 s tb M W H dp ⟨x, y, p, L⟩ n)) from run22_any sz W H top dp mt co r g b q fr en s x y p n N M gL cL gt ct (d + 1 + 1) bt L tb wr HN.out hW hH hn1 (by omega) hM hps hs hx hy HDP.out OW.out hgd.2.2.2.2 HT.out HT1.out)
        cases hr : run22 s tb M W H dp ⟨x, y, p, L⟩ n with
        | error ka =>
          as_aux_lemma =>
            obtain ⟨k, a⟩ := ka
            have hk : (k != 0) = true := by rw [bne_iff_ne]; exact run22_kind hr
            rw [hr] at HCALL HRL
            have HRE := Hi (show R = .error (k, a) from HRL.out.symm)
            have HCALL := Hi (show Calls Tryz.prog _ _ wr (fun e w' => ∃ p' : Int, e = .returned (.agg (List.toArray (stL x y p' (.slice (some ⟨gL, 0, none⟩) N cL) k a))) ∧ Below wr.heap.size wr w') from HCALL.out)
            clear hr
            go_wp2_with (first
              | ((with_reducible refine skip_g rfl ?_ ?_); rfl; intro _)
              | (refine load_u (by kernel_rfl) 168 6 _ rfl (d + 1 + 1 + 1) [.int .i64 x, .int .i64 y, .int .i64 p, .slice (some ⟨gL, 0, none⟩) N cL, .int .i64 0, .int .i64 0] rfl rfl OS.out Tryz.underlying168 rfl (by kernel_rfl) ?_; intro _)
              | (refine load_u (by kernel_rfl) 52 15 _ rfl d [.int .i64 sz, .int .i64 W, .int .i64 H, .bool top, .int .i64 dp, .int .i64 mt, .int .i64 co, .int .i64 r, .int .i64 g, .int .i64 b, .int .i64 q, .int .i64 fr, .int .i64 en, .int .i64 0, .int .i64 0] rfl rfl OH.out Tryz.underlying52 rfl (by kernel_rfl) ?_; intro _)
              | (go_at_call 94; (with_reducible refine HCALL.out.mono ?_); rintro e wc ⟨p', rfl, hb⟩; have OS := Hi (OS.out.below hb OS.out.lt); have OH := Hi (OH.out.below hb OH.out.lt); have OR := Hi (OR.out.below hb OR.out.lt); have BL := Hi (bthen hb BL.out (by omega)); clear hb)
              | (refine store_o rfl 168 6 _ _ rfl (d + 1 + 1 + 1) (stL x y p' (.slice (some ⟨gL, 0, none⟩) N cL) k a) rfl rfl (by kernel_rfl) (by kernel_rfl) (by kernel_rfl) OS.out (by first | rfl | simp) ?_; intro ws hst hO; have OS := Hi hO; have OH := Hi (hst.oth OH.out (by omega)); have OR := Hi (hst.oth OR.out (by omega)); have BL := Hi (hst.below BL.out (by omega)); clear hst hO; have cS4 := (OS.out.cell 4).trans (show _ = some (.int .i64 k) from rfl); have cS5 := (OS.out.cell 5).trans (show _ = some (.int .i64 a) from rfl))
              | ((go_at_call 93; (with_reducible refine (HBD.out _ k a).mono ?_); rintro e wb ⟨rfl, hb⟩); have lz := OR.out.lt; have OR := Hi (OR.out.below hb OR.out.lt); have BL := Hi (bthen hb BL.out (by omega)); clear hb)
              | (refine store_o rfl 59 5 _ _ rfl (d + 1) [.int .i64 0, .int .i64 0, .slice none 0 0, .int .i64 k, .int .i64 a] rfl rfl (by kernel_rfl) (by kernel_rfl) (by kernel_rfl) OR.out (by first | rfl | simp) ?_; intro ws hst hO; have OR := Hi hO; have BL := Hi (hst.below BL.out (by omega)); clear hst hO))
            refine bodyPost_ret (v := .agg (List.toArray [.int .i64 0, .int .i64 0, .slice none 0 0, .int .i64 k, .int .i64 a])) ?_ rfl ?_
            · exact results_c Tryz.results25 _ _ _ [.int .i64 0, .int .i64 0, .slice none 0 0, .int .i64 k, .int .i64 a] _ rfl OR.out.range0 Tryz.underlying59 rfl (by kernel_rfl)
            · rw [show R = .error (k, a) from HRE.out]
              exact ⟨by rfl, by rw [HD0.out]; exact BL.out⟩
        | ok τ =>
          as_aux_lemma =>
            rw [hr] at HCALL HRL
            have HRL := Hi (show rle22 s tb M W H dp te f τ = R from HRL.out)
            have HCALL := Hi (show Calls Tryz.prog _ _ wr (Put22Post wr τ.x τ.y τ.pl N τ.L) from HCALL.out)
            have hgood2 := run22_good htb HT1.out hgd (by show p + 2 ≤ te; omega) hr
            have hpl2 := hgood2.2
            have hpl3 : p < τ.pl := hpl2
            have HG2 := Hi hgood2.1
            clear hr hgood2 hpl2
            go_wp2_with (first
              | ((with_reducible refine skip_g rfl ?_ ?_); rfl; intro _)
              | (refine load_u (by kernel_rfl) 168 6 _ rfl (d + 1 + 1 + 1) [.int .i64 x, .int .i64 y, .int .i64 p, .slice (some ⟨gL, 0, none⟩) N cL, .int .i64 0, .int .i64 0] rfl rfl OS.out Tryz.underlying168 rfl (by kernel_rfl) ?_; intro _)
              | (refine load_u (by kernel_rfl) 52 15 _ rfl d [.int .i64 sz, .int .i64 W, .int .i64 H, .bool top, .int .i64 dp, .int .i64 mt, .int .i64 co, .int .i64 r, .int .i64 g, .int .i64 b, .int .i64 q, .int .i64 fr, .int .i64 en, .int .i64 0, .int .i64 0] rfl rfl OH.out Tryz.underlying52 rfl (by kernel_rfl) ?_; intro _)
              | (go_at_call 94; (with_reducible refine HCALL.out.mono ?_); rintro e wc ⟨gz, cz, rfl, hz, hb⟩; have hgz := owns_lt hz; have OW := Hi (owns_keep (b2 := d + 1 + 1) hz (by omega) (fun _ _ _ => rfl)); clear hz; have OS := Hi (OS.out.below hb OS.out.lt); have OH := Hi (OH.out.below hb OH.out.lt); have OR := Hi (OR.out.below hb OR.out.lt); have BL := Hi (bthen hb BL.out (by omega)); clear hb)
              | (refine store_o rfl 168 6 _ _ rfl (d + 1 + 1 + 1) (stL (τ.x : Nat) (τ.y : Nat) (τ.pl : Nat) (.slice (some ⟨gz, 0, none⟩) N cz) 0 0) rfl rfl (by kernel_rfl) (by kernel_rfl) (by kernel_rfl) OS.out (by first | rfl | simp) ?_; intro ws hst hO; have OS := Hi hO; have OH := Hi (hst.oth OH.out (by omega)); have OR := Hi (hst.oth OR.out (by omega)); have BL := Hi (hst.below BL.out (by omega)); have OW := Hi (hst.owns OW.out (by omega)); clear hst hO; have cS4 := (OS.out.cell 4).trans (show _ = some (.int .i64 0) from rfl)))
            go_roundw
            case rel => exact ⟨τ, f, gz, cz, HG2.out, by omega, HRL.out, OS.out, OW.out, by omega, OH.out, OR.out, BL.out⟩
            case measure =>
              have hmN : intOf ((ws.cell? ⟨d + 1 + 1 + 1, 2, none⟩).getD undef) = (τ.pl : Int) := by rw [OS.out.cell 2]; rfl
              rw [hmN, Int.toNat_natCast]; omega
      · have HRL := Hi (show (match plain22 s tb M W H dp te ⟨x, y, p, L⟩ v with
          | .error e => .error e
          | .ok τ => rle22 s tb M W H dp te f τ) = R by
            rw [← HRL.out, if_neg (by rw [HVB.out]; omega)]
            unfold step22
            rw [if_neg (by show ¬ 0 < byN s p; rw [HNB.out]; omega), if_pos (by show 2 < byN s (p + 1); rw [HVB.out]; omega), show (byN s ((S22.mk x y p L).pl + 1)).toNat = v by rw [HVB.out]; rfl])
        have hgd := HGOOD.out
        have HT := Hi (owns_down HTB.out BL.out (fun g hg => by
          have : gt = g := by simpa [Value.ownBlock] using hg
          omega))
        have HCALL := Hi (show Calls Tryz.prog 95 #[.agg (List.toArray [.int .i64 x, .int .i64 y, .int .i64 p, .slice (some ⟨gL, 0, none⟩) N cL, .int .i64 0, .int .i64 0]), .string s, .agg (List.toArray [.int .i64 sz, .int .i64 W, .int .i64 H, .bool top, .int .i64 dp, .int .i64 mt, .int .i64 co, .int .i64 r, .int .i64 g, .int .i64 b, .int .i64 q, .int .i64 fr, .int .i64 en, .int .i64 0, .int .i64 0]), .slice (some ⟨gt, 0, none⟩) M ct, .int .i64 v, .int .i64 te] wr (St22Post wr x y p N gL cL (plain22 s tb M W H dp te ⟨x, y, p, L⟩ v)) from plain22_any sz W H top dp mt co r g b q fr en s x y p v te N M gL cL gt ct (d + 1 + 1) bt L tb wr HN.out hW hH (by omega) (by omega) hM (by omega) hte hs hx hy HDP.out OW.out hgd.2.2.2.2 HT.out HT1.out)
        cases hr : plain22 s tb M W H dp te ⟨x, y, p, L⟩ v with
        | error ka =>
          as_aux_lemma =>
            obtain ⟨k, a⟩ := ka
            have hk : (k != 0) = true := by rw [bne_iff_ne]; exact plain22_kind hr
            rw [hr] at HCALL HRL
            have HRE := Hi (show R = .error (k, a) from HRL.out.symm)
            have HCALL := Hi (show Calls Tryz.prog _ _ wr (fun e w' => ∃ p' : Int, e = .returned (.agg (List.toArray (stL x y p' (.slice (some ⟨gL, 0, none⟩) N cL) k a))) ∧ Below wr.heap.size wr w') from HCALL.out)
            clear hr
            go_wp2_with (first
              | ((with_reducible refine skip_g rfl ?_ ?_); rfl; intro _)
              | (refine load_u (by kernel_rfl) 168 6 _ rfl (d + 1 + 1 + 1) [.int .i64 x, .int .i64 y, .int .i64 p, .slice (some ⟨gL, 0, none⟩) N cL, .int .i64 0, .int .i64 0] rfl rfl OS.out Tryz.underlying168 rfl (by kernel_rfl) ?_; intro _)
              | (refine load_u (by kernel_rfl) 52 15 _ rfl d [.int .i64 sz, .int .i64 W, .int .i64 H, .bool top, .int .i64 dp, .int .i64 mt, .int .i64 co, .int .i64 r, .int .i64 g, .int .i64 b, .int .i64 q, .int .i64 fr, .int .i64 en, .int .i64 0, .int .i64 0] rfl rfl OH.out Tryz.underlying52 rfl (by kernel_rfl) ?_; intro _)
              | (go_at_call 95; (with_reducible refine HCALL.out.mono ?_); rintro e wc ⟨p', rfl, hb⟩; have OS := Hi (OS.out.below hb OS.out.lt); have OH := Hi (OH.out.below hb OH.out.lt); have OR := Hi (OR.out.below hb OR.out.lt); have BL := Hi (bthen hb BL.out (by omega)); clear hb)
              | (refine store_o rfl 168 6 _ _ rfl (d + 1 + 1 + 1) (stL x y p' (.slice (some ⟨gL, 0, none⟩) N cL) k a) rfl rfl (by kernel_rfl) (by kernel_rfl) (by kernel_rfl) OS.out (by first | rfl | simp) ?_; intro ws hst hO; have OS := Hi hO; have OH := Hi (hst.oth OH.out (by omega)); have OR := Hi (hst.oth OR.out (by omega)); have BL := Hi (hst.below BL.out (by omega)); clear hst hO; have cS4 := (OS.out.cell 4).trans (show _ = some (.int .i64 k) from rfl); have cS5 := (OS.out.cell 5).trans (show _ = some (.int .i64 a) from rfl))
              | ((go_at_call 93; (with_reducible refine (HBD.out _ k a).mono ?_); rintro e wb ⟨rfl, hb⟩); have lz := OR.out.lt; have OR := Hi (OR.out.below hb OR.out.lt); have BL := Hi (bthen hb BL.out (by omega)); clear hb)
              | (refine store_o rfl 59 5 _ _ rfl (d + 1) [.int .i64 0, .int .i64 0, .slice none 0 0, .int .i64 k, .int .i64 a] rfl rfl (by kernel_rfl) (by kernel_rfl) (by kernel_rfl) OR.out (by first | rfl | simp) ?_; intro ws hst hO; have OR := Hi hO; have BL := Hi (hst.below BL.out (by omega)); clear hst hO))
            refine bodyPost_ret (v := .agg (List.toArray [.int .i64 0, .int .i64 0, .slice none 0 0, .int .i64 k, .int .i64 a])) ?_ rfl ?_
            · exact results_c Tryz.results25 _ _ _ [.int .i64 0, .int .i64 0, .slice none 0 0, .int .i64 k, .int .i64 a] _ rfl OR.out.range0 Tryz.underlying59 rfl (by kernel_rfl)
            · rw [show R = .error (k, a) from HRE.out]
              exact ⟨by rfl, by rw [HD0.out]; exact BL.out⟩
        | ok τ =>
          as_aux_lemma =>
            rw [hr] at HCALL HRL
            have HRL := Hi (show rle22 s tb M W H dp te f τ = R from HRL.out)
            have HCALL := Hi (show Calls Tryz.prog _ _ wr (Put22Post wr τ.x τ.y τ.pl N τ.L) from HCALL.out)
            have hgood2 := plain22_good htb HT1.out hgd hr
            have hpl2 := hgood2.2
            have hpl3 : p < τ.pl := hpl2
            have HG2 := Hi hgood2.1
            clear hr hgood2 hpl2
            go_wp2_with (first
              | ((with_reducible refine skip_g rfl ?_ ?_); rfl; intro _)
              | (refine load_u (by kernel_rfl) 168 6 _ rfl (d + 1 + 1 + 1) [.int .i64 x, .int .i64 y, .int .i64 p, .slice (some ⟨gL, 0, none⟩) N cL, .int .i64 0, .int .i64 0] rfl rfl OS.out Tryz.underlying168 rfl (by kernel_rfl) ?_; intro _)
              | (refine load_u (by kernel_rfl) 52 15 _ rfl d [.int .i64 sz, .int .i64 W, .int .i64 H, .bool top, .int .i64 dp, .int .i64 mt, .int .i64 co, .int .i64 r, .int .i64 g, .int .i64 b, .int .i64 q, .int .i64 fr, .int .i64 en, .int .i64 0, .int .i64 0] rfl rfl OH.out Tryz.underlying52 rfl (by kernel_rfl) ?_; intro _)
              | (go_at_call 95; (with_reducible refine HCALL.out.mono ?_); rintro e wc ⟨gz, cz, rfl, hz, hb⟩; have hgz := owns_lt hz; have OW := Hi (owns_keep (b2 := d + 1 + 1) hz (by omega) (fun _ _ _ => rfl)); clear hz; have OS := Hi (OS.out.below hb OS.out.lt); have OH := Hi (OH.out.below hb OH.out.lt); have OR := Hi (OR.out.below hb OR.out.lt); have BL := Hi (bthen hb BL.out (by omega)); clear hb)
              | (refine store_o rfl 168 6 _ _ rfl (d + 1 + 1 + 1) (stL (τ.x : Nat) (τ.y : Nat) (τ.pl : Nat) (.slice (some ⟨gz, 0, none⟩) N cz) 0 0) rfl rfl (by kernel_rfl) (by kernel_rfl) (by kernel_rfl) OS.out (by first | rfl | simp) ?_; intro ws hst hO; have OS := Hi hO; have OH := Hi (hst.oth OH.out (by omega)); have OR := Hi (hst.oth OR.out (by omega)); have BL := Hi (hst.below BL.out (by omega)); have OW := Hi (hst.owns OW.out (by omega)); clear hst hO; have cS4 := (OS.out.cell 4).trans (show _ = some (.int .i64 0) from rfl)))
            go_roundw
            case rel => exact ⟨τ, f, gz, cz, HG2.out, by omega, HRL.out, OS.out, OW.out, by omega, OH.out, OR.out, BL.out⟩
            case measure =>
              have hmN : intOf ((ws.cell? ⟨d + 1 + 1 + 1, 2, none⟩).getD undef) = (τ.pl : Int) := by rw [OS.out.cell 2]; rfl
              rw [hmN, Int.toNat_natCast]; omega
      · have HRL := Hi (show (match move22 W H 0 (y + 1) (p + 2) p L with
          | .error e => .error e
          | .ok τ => rle22 s tb M W H dp te f τ) = R by
            rw [← HRL.out, if_neg (by rw [HVB.out]; omega)]
            unfold step22
            rw [if_neg (by show ¬ 0 < byN s p; rw [HNB.out]; omega), if_neg (by show ¬ 2 < byN s (p + 1); rw [HVB.out]; omega), if_pos (by show byN s (p + 1) = 0; rw [HVB.out]; rfl)])
        have hz0 : (((0 : Nat) : Int)) = 0 := rfl
        rw [hz0]
        have cS := (OS.out.cell 2).trans (show _ = some (.int .i64 (p : Int)) from rfl)
        have fS := OS.out.frozen 2
        go_upto_region 13 with ((with_reducible refine skip_g rfl ?_ ?_); rfl; intro _)
        have OS := Hi ((OS.out.set 2 (.int .i64 ((p : Int) + 2))).cells (show _ = List.toArray [.int .i64 x, .int .i64 y, .int .i64 ((p : Int) + 2), .slice (some ⟨gL, 0, none⟩) N cL, .int .i64 0, .int .i64 0] from rfl))
        have OH := Hi (OH.out.set_other ⟨(d + 1 + 1 + 1), 2, none⟩ (.int .i64 ((p : Int) + 2)) (by simp <;> omega))
        have OR := Hi (OR.out.set_other ⟨(d + 1 + 1 + 1), 2, none⟩ (.int .i64 ((p : Int) + 2)) (by simp <;> omega))
        have OW := Hi (owns_set3 (o := 2) (OB := (d + 1 + 1 + 1)) OW.out (.int .i64 ((p : Int) + 2)) (by omega))
        have BL := Hi ((show Stored wr (d + 1 + 1 + 1) 2 [.int .i64 ((p : Int) + 2)] (wr.setCell ⟨(d + 1 + 1 + 1), 2, none⟩ (.int .i64 ((p : Int) + 2))) from rfl).below BL.out (by omega))
        have hzr : d + 1 + 1 + 1 < (wr.setCell ⟨(d + 1 + 1 + 1), 2, none⟩ (.int .i64 ((p : Int) + 2))).heap.size := by simp; omega
        generalize World.setCell _ _ _ = wv at OS OH OR OW BL hzr ⊢
        clear cS fS hzw
        obtain ⟨wr, rfl⟩ : ∃ z, z = wv := ⟨_, rfl⟩
        have hzw := hzr
        clear hzr
        have cS := (OS.out.cell 0).trans (show _ = some (.int .i64 (x : Int)) from rfl)
        have fS := OS.out.frozen 0
        go_upto_region 15 with (fail)
        have OS := Hi ((OS.out.set 0 (.int .i64 0)).cells (show _ = List.toArray [.int .i64 0, .int .i64 y, .int .i64 ((p : Int) + 2), .slice (some ⟨gL, 0, none⟩) N cL, .int .i64 0, .int .i64 0] from rfl))
        have OH := Hi (OH.out.set_other ⟨(d + 1 + 1 + 1), 0, none⟩ (.int .i64 0) (by simp <;> omega))
        have OR := Hi (OR.out.set_other ⟨(d + 1 + 1 + 1), 0, none⟩ (.int .i64 0) (by simp <;> omega))
        have OW := Hi (owns_set3 (o := 0) (OB := (d + 1 + 1 + 1)) OW.out (.int .i64 0) (by omega))
        have BL := Hi ((show Stored wr (d + 1 + 1 + 1) 0 [.int .i64 0] (wr.setCell ⟨(d + 1 + 1 + 1), 0, none⟩ (.int .i64 0)) from rfl).below BL.out (by omega))
        have hzr : d + 1 + 1 + 1 < (wr.setCell ⟨(d + 1 + 1 + 1), 0, none⟩ (.int .i64 0)).heap.size := by simp; omega
        generalize World.setCell _ _ _ = wv at OS OH OR OW BL hzr ⊢
        clear cS fS hzw
        obtain ⟨wr, rfl⟩ : ∃ z, z = wv := ⟨_, rfl⟩
        have hzw := hzr
        clear hzr
        have cS := (OS.out.cell 1).trans (show _ = some (.int .i64 (y : Int)) from rfl)
        have fS := OS.out.frozen 1
        go_upto_region 21 with (fail)
        have OS := Hi ((OS.out.set 1 (.int .i64 ((y : Int) + 1))).cells (show _ = List.toArray [.int .i64 0, .int .i64 ((y : Int) + 1), .int .i64 ((p : Int) + 2), .slice (some ⟨gL, 0, none⟩) N cL, .int .i64 0, .int .i64 0] from rfl))
        have OH := Hi (OH.out.set_other ⟨(d + 1 + 1 + 1), 1, none⟩ (.int .i64 ((y : Int) + 1)) (by simp <;> omega))
        have OR := Hi (OR.out.set_other ⟨(d + 1 + 1 + 1), 1, none⟩ (.int .i64 ((y : Int) + 1)) (by simp <;> omega))
        have OW := Hi (owns_set3 (o := 1) (OB := (d + 1 + 1 + 1)) OW.out (.int .i64 ((y : Int) + 1)) (by omega))
        have BL := Hi ((show Stored wr (d + 1 + 1 + 1) 1 [.int .i64 ((y : Int) + 1)] (wr.setCell ⟨(d + 1 + 1 + 1), 1, none⟩ (.int .i64 ((y : Int) + 1))) from rfl).below BL.out (by omega))
        have hzr : d + 1 + 1 + 1 < (wr.setCell ⟨(d + 1 + 1 + 1), 1, none⟩ (.int .i64 ((y : Int) + 1))).heap.size := by simp; omega
        generalize World.setCell _ _ _ = wv at OS OH OR OW BL hzr ⊢
        clear cS fS hzw
        obtain ⟨wr, rfl⟩ : ∃ z, z = wv := ⟨_, rfl⟩
        have hzw := hzr
        clear hzr
        have cH := (OH.out.cell 2).trans (show _ = some (.int .i64 (H : Int)) from rfl)
        have cW := (OH.out.cell 1).trans (show _ = some (.int .i64 (W : Int)) from rfl)
        have cX := (OS.out.cell 0).trans (show _ = some (.int .i64 0) from rfl)
        have cY := (OS.out.cell 1).trans (show _ = some (.int .i64 ((y : Int) + 1)) from rfl)
        have cS4 := (OS.out.cell 4).trans (show _ = some (.int .i64 0) from rfl)
        by_cases hyH : H < y + 1
        · as_aux_lemma =>
            have HRE := Hi (show R = .error (2, (p : Int)) by rw [← HRL.out]; unfold move22; rw [if_pos (Or.inr hyH)])
            go_wp2_with (first
              | ((with_reducible refine skip_g rfl ?_ ?_); rfl; intro _)
              | ((go_at_call 93; (with_reducible refine (HBD.out _ 2 p).mono ?_); rintro e wb ⟨rfl, hb⟩); have OR := Hi (OR.out.below hb OR.out.lt); have BL := Hi (bthen hb BL.out (by omega)); clear hb)
              | (refine store_o rfl 59 5 _ _ rfl (d + 1) [.int .i64 0, .int .i64 0, .slice none 0 0, .int .i64 2, .int .i64 p] rfl rfl (by kernel_rfl) (by kernel_rfl) (by kernel_rfl) OR.out (by first | rfl | simp) ?_; intro ws hst hO; have OR := Hi hO; have BL := Hi (hst.below BL.out (by omega)); clear hst hO))
            refine bodyPost_ret (v := .agg (List.toArray [.int .i64 0, .int .i64 0, .slice none 0 0, .int .i64 2, .int .i64 p])) ?_ rfl ?_
            · exact results_c Tryz.results25 _ _ _ [.int .i64 0, .int .i64 0, .slice none 0 0, .int .i64 2, .int .i64 p] _ rfl OR.out.range0 Tryz.underlying59 rfl (by kernel_rfl)
            · rw [show R = .error (2, p) from HRE.out]
              exact ⟨by rfl, by rw [HD0.out]; exact BL.out⟩
        · as_aux_lemma =>
            have HRL := Hi (show rle22 s tb M W H dp te f ⟨0, y + 1, p + 2, L⟩ = R by rw [← HRL.out]; unfold move22; rw [if_neg (by omega)])
            have HG2 := Hi (show Good22 W H te ⟨0, y + 1, p + 2, L⟩ from ⟨Nat.zero_le _, by show y + 1 ≤ H; omega, by show p + 2 ≤ te; omega, HGOOD.out.2.2.2.1, HGOOD.out.2.2.2.2⟩)
            go_wp2_with ((with_reducible refine skip_g rfl ?_ ?_); rfl; intro _)
            go_roundw
            case rel => exact ⟨⟨0, y + 1, p + 2, L⟩, f, gL, cL, HG2.out, by show te < p + 2 + f; omega, HRL.out, OS.out, OW.out, hgL, OH.out, OR.out, BL.out⟩
            case measure =>
              have hmN : intOf ((wr.cell? ⟨d + 1 + 1 + 1, 2, none⟩).getD undef) = (p : Int) + 2 := by rw [OS.out.cell 2]; rfl
              rw [hmN]; omega
      · have hz0 : (((0 : Nat) : Int)) = 0 := rfl
        have hz2 : (((2 : Nat) : Int)) = 2 := rfl
        rw [hz0, hz2]
        have HRL := Hi (show (if te < p + 4 then Except.error (1, (te : Int)) else match move22 W H (x + (byN s (p + 2)).toNat) (y + (byN s (p + 3)).toNat) (p + 4) p L with
          | .error e => .error e
          | .ok τ => rle22 s tb M W H dp te f τ) = R by
            have hs : step22 s tb M W H dp te ⟨x, y, p, L⟩ = if te < p + 4 then Except.error (1, (te : Int)) else move22 W H (x + (byN s (p + 2)).toNat) (y + (byN s (p + 3)).toNat) (p + 4) p L := by
              unfold step22
              rw [if_neg (by show ¬ 0 < byN s p; rw [HNB.out]; omega), if_neg (by show ¬ 2 < byN s (p + 1); rw [HVB.out]; omega), if_neg (by show ¬ byN s (p + 1) = 0; rw [HVB.out]; omega)]
            rw [← HRL.out, if_neg (show ¬ (byN s p = 0 ∧ byN s (p + 1) = 1) by rw [HVB.out]; omega), hs]
            by_cases h4 : te < p + 4
            · rw [if_pos h4, if_pos h4]
            · rw [if_neg h4, if_neg h4])
        have cS := (OS.out.cell 2).trans (show _ = some (.int .i64 (p : Int)) from rfl)
        have fS := OS.out.frozen 2
        go_upto_region 13 with ((with_reducible refine skip_g rfl ?_ ?_); rfl; intro _)
        have OS := Hi ((OS.out.set 2 (.int .i64 ((p : Int) + 2))).cells (show _ = List.toArray [.int .i64 x, .int .i64 y, .int .i64 ((p : Int) + 2), .slice (some ⟨gL, 0, none⟩) N cL, .int .i64 0, .int .i64 0] from rfl))
        have OH := Hi (OH.out.set_other ⟨(d + 1 + 1 + 1), 2, none⟩ (.int .i64 ((p : Int) + 2)) (by simp <;> omega))
        have OR := Hi (OR.out.set_other ⟨(d + 1 + 1 + 1), 2, none⟩ (.int .i64 ((p : Int) + 2)) (by simp <;> omega))
        have OW := Hi (owns_set3 (o := 2) (OB := (d + 1 + 1 + 1)) OW.out (.int .i64 ((p : Int) + 2)) (by omega))
        have BL := Hi ((show Stored wr (d + 1 + 1 + 1) 2 [.int .i64 ((p : Int) + 2)] (wr.setCell ⟨(d + 1 + 1 + 1), 2, none⟩ (.int .i64 ((p : Int) + 2))) from rfl).below BL.out (by omega))
        have hzr : d + 1 + 1 + 1 < (wr.setCell ⟨(d + 1 + 1 + 1), 2, none⟩ (.int .i64 ((p : Int) + 2))).heap.size := by simp; omega
        generalize World.setCell _ _ _ = wv at OS OH OR OW BL hzr ⊢
        clear cS fS hzw
        obtain ⟨wr, rfl⟩ : ∃ z, z = wv := ⟨_, rfl⟩
        have hzw := hzr
        clear hzr
        have cP := (OS.out.cell 2).trans (show _ = some (.int .i64 ((p : Int) + 2)) from rfl)
        by_cases h4 : te < p + 4
        · as_aux_lemma =>
            have HRE := Hi (show R = .error (1, (te : Int)) by rw [← HRL.out, if_pos h4])
            have h5 : (te : Int) < (p : Int) + 2 + 2 := by omega
            go_wp2_with (first
              | ((with_reducible refine skip_g rfl ?_ ?_); rfl; intro _)
              | ((go_at_call 93; (with_reducible refine (HBD.out _ 1 te).mono ?_); rintro e wb ⟨rfl, hb⟩); have OR := Hi (OR.out.below hb OR.out.lt); have BL := Hi (bthen hb BL.out (by omega)); clear hb)
              | (refine store_o rfl 59 5 _ _ rfl (d + 1) [.int .i64 0, .int .i64 0, .slice none 0 0, .int .i64 1, .int .i64 te] rfl rfl (by kernel_rfl) (by kernel_rfl) (by kernel_rfl) OR.out (by first | rfl | simp) ?_; intro ws hst hO; have OR := Hi hO; have BL := Hi (hst.below BL.out (by omega)); clear hst hO))
            refine bodyPost_ret (v := .agg (List.toArray [.int .i64 0, .int .i64 0, .slice none 0 0, .int .i64 1, .int .i64 te])) ?_ rfl ?_
            · exact results_c Tryz.results25 _ _ _ [.int .i64 0, .int .i64 0, .slice none 0 0, .int .i64 1, .int .i64 te] _ rfl OR.out.range0 Tryz.underlying59 rfl (by kernel_rfl)
            · rw [show R = .error (1, te) from HRE.out]
              exact ⟨by rfl, by rw [HD0.out]; exact BL.out⟩
        · have h5 : ¬ (te : Int) < (p : Int) + 2 + 2 := by omega
          have hx0 := byN_bd s (p + 2)
          have hy0 := byN_bd s (p + 3)
          have hgx := byN_get s (p + 2) (by omega)
          have hgy : (((s[p + 2 + 1]'(by omega)).toNat : Int)) = byN s (p + 3) := byN_get s (p + 2 + 1) (by omega)
          obtain ⟨bx, hbx⟩ : ∃ n : Nat, byN s (p + 2) = n := ⟨(byN s (p + 2)).toNat, by omega⟩
          obtain ⟨bY, hby⟩ : ∃ n : Nat, byN s (p + 3) = n := ⟨(byN s (p + 3)).toNat, by omega⟩
          rw [if_neg h4, hbx, hby] at HRL
          rw [hbx] at hx0 hgx
          rw [hby] at hy0 hgy
          have HRL := Hi (show (match move22 W H (x + bx) (y + bY) (p + 4) p L with
            | .error e => .error e
            | .ok τ => rle22 s tb M W H dp te f τ) = R from HRL.out)
          go_upto_region 18 with ((with_reducible refine skip_g rfl ?_ ?_); rfl; intro _)
          clear cP
          refine wp_region_noPanic ?_
          refine wp_region_T (fun w' => w' = World.drew wr) (fun i => decide (9 ≤ i)) (by kernel_rfl) ?_
          have OS := Hi (OS.out.drew)
          have OH := Hi (OH.out.drew)
          have OR := Hi (OR.out.drew)
          have OW := Hi (owns_drew2 OW.out)
          have BL := Hi (BL.out.drew)
          generalize World.drew _ = wk at OS OH OR OW BL ⊢
          refine wpAnyT_take (i := 0) (v := .pointer (some ⟨d + 1 + 1 + 1, 0, none⟩)) rfl (by kernel_rfl) (by kernel_rfl) (by kernel_rfl) (by kernel_rfl) rfl (fun _ _ _ h => h) (Or.inl ⟨by rfl, fun w hS => by subst hS; (go_simp) <;> first | rfl | assumption | (intro hh; exfalso; omega) | (exact (i64_wraps _ (by omega) (by omega)).trans (by omega)) | omega⟩) rfl ?_
          simp only [Act.put, zq1, zq2, zq3, zq4, zq5, zq6]
          refine wpAnyT_take (i := 1) (v := .int .i64 (x : Int)) rfl (by kernel_rfl) (by kernel_rfl) (by kernel_rfl) (by kernel_rfl) rfl (fun _ _ _ h => h) (Or.inl ⟨by rfl, fun w hS => by subst hS; (have hc : w.cell? ⟨d + 1 + 1 + 1, 0, none⟩ = some (.int .i64 (x : Int)) := ((OS.out.cell 0).trans rfl); go_simp)⟩) rfl ?_
          simp only [Act.put, zq1, zq2, zq3, zq4, zq5, zq6]
          refine wpAnyT_take (i := 2) (v := .string s) rfl (by kernel_rfl) (by kernel_rfl) (by kernel_rfl) (by kernel_rfl) rfl (fun _ _ _ h => h) (Or.inl ⟨by rfl, fun w hS => by subst hS; (go_simp) <;> first | rfl | assumption | (intro hh; exfalso; omega) | (exact (i64_wraps _ (by omega) (by omega)).trans (by omega)) | omega⟩) rfl ?_
          simp only [Act.put, zq1, zq2, zq3, zq4, zq5, zq6]
          refine wpAnyT_take (i := 3) (v := .pointer (some ⟨d + 1 + 1 + 1, 2, none⟩)) rfl (by kernel_rfl) (by kernel_rfl) (by kernel_rfl) (by kernel_rfl) rfl (fun _ _ _ h => h) (Or.inl ⟨by rfl, fun w hS => by subst hS; (go_simp) <;> first | rfl | assumption | (intro hh; exfalso; omega) | (exact (i64_wraps _ (by omega) (by omega)).trans (by omega)) | omega⟩) rfl ?_
          simp only [Act.put, zq1, zq2, zq3, zq4, zq5, zq6]
          refine wpAnyT_take (i := 4) (v := .int .i64 ((p : Int) + 2)) rfl (by kernel_rfl) (by kernel_rfl) (by kernel_rfl) (by kernel_rfl) rfl (fun _ _ _ h => h) (Or.inl ⟨by rfl, fun w hS => by subst hS; (have hc : w.cell? ⟨d + 1 + 1 + 1, 2, none⟩ = some (.int .i64 ((p : Int) + 2)) := ((OS.out.cell 2).trans rfl); go_simp)⟩) rfl ?_
          simp only [Act.put, zq1, zq2, zq3, zq4, zq5, zq6]
          refine wpAnyT_take (i := 5) (v := .int .u8 (bx : Int)) rfl (by kernel_rfl) (by kernel_rfl) (by kernel_rfl) (by kernel_rfl) rfl (fun _ _ _ h => h) (Or.inl ⟨by rfl, fun w hS => by subst hS; (go_simp); exact idx_at s _ (p + 2) _ (by omega) (by omega) hbx _⟩) rfl ?_
          simp only [Act.put, zq1, zq2, zq3, zq4, zq5, zq6]
          refine wpAnyT_take (i := 6) (v := .int .i64 (bx : Int)) rfl (by kernel_rfl) (by kernel_rfl) (by kernel_rfl) (by kernel_rfl) rfl (fun _ _ _ h => h) (Or.inl ⟨by rfl, fun w hS => by subst hS; (go_simp) <;> first | rfl | assumption | (intro hh; exfalso; omega) | (exact (i64_wraps _ (by omega) (by omega)).trans (by omega)) | omega⟩) rfl ?_
          simp only [Act.put, zq1, zq2, zq3, zq4, zq5, zq6]
          refine wpAnyT_take (i := 7) (v := .int .i64 ((x : Int) + (bx : Int))) rfl (by kernel_rfl) (by kernel_rfl) (by kernel_rfl) (by kernel_rfl) rfl (fun _ _ _ h => h) (Or.inl ⟨by rfl, fun w hS => by subst hS; (go_simp) <;> first | rfl | assumption | (intro hh; exfalso; omega) | (exact (i64_wraps _ (by omega) (by omega)).trans (by omega)) | omega⟩) rfl ?_
          simp only [Act.put, zq1, zq2, zq3, zq4, zq5, zq6]
          refine wpAnyT_take (i := 8) (v := .pointer (some ⟨d + 1 + 1 + 1, 0, none⟩)) rfl (by kernel_rfl) (by kernel_rfl) (by kernel_rfl) (by kernel_rfl) rfl (fun _ _ _ h => h) (Or.inl ⟨by rfl, fun w hS => by subst hS; (go_simp) <;> first | rfl | assumption | (intro hh; exfalso; omega) | (exact (i64_wraps _ (by omega) (by omega)).trans (by omega)) | omega⟩) rfl ?_
          simp only [Act.put, zq1, zq2, zq3, zq4, zq5, zq6]
          have cS := (OS.out.cell 0).trans (show _ = some (.int .i64 (x : Int)) from rfl)
          have fS := OS.out.frozen 0
          refine wpAnyT_one (i := 9) (by kernel_rfl) rfl rfl ?_
          intro K' hK
          go_simp
          have hzk := OS.out.lt
          have OS := Hi ((OS.out.set 0 (.int .i64 ((x : Int) + (bx : Int)))).cells (show _ = List.toArray [.int .i64 ((x : Int) + (bx : Int)), .int .i64 y, .int .i64 ((p : Int) + 2), .slice (some ⟨gL, 0, none⟩) N cL, .int .i64 0, .int .i64 0] from rfl))
          have OH := Hi (OH.out.set_other ⟨(d + 1 + 1 + 1), 0, none⟩ (.int .i64 ((x : Int) + (bx : Int))) (by simp <;> omega))
          have OR := Hi (OR.out.set_other ⟨(d + 1 + 1 + 1), 0, none⟩ (.int .i64 ((x : Int) + (bx : Int))) (by simp <;> omega))
          have OW := Hi (owns_set3 (o := 0) (OB := (d + 1 + 1 + 1)) OW.out (.int .i64 ((x : Int) + (bx : Int))) (by omega))
          have BL := Hi ((show Stored wk (d + 1 + 1 + 1) 0 [.int .i64 ((x : Int) + (bx : Int))] (wk.setCell ⟨(d + 1 + 1 + 1), 0, none⟩ (.int .i64 ((x : Int) + (bx : Int)))) from rfl).below BL.out (by omega))
          have hzr : d + 1 + 1 + 1 < (wk.setCell ⟨(d + 1 + 1 + 1), 0, none⟩ (.int .i64 ((x : Int) + (bx : Int)))).heap.size := by simp; omega
          generalize World.setCell _ _ _ = wv at OS OH OR OW BL hzr ⊢
          clear cS fS hzw hzk
          refine hK _ _ ?_
          clear hK K'
          try simp only [Act.put, zq1, zq2, zq3, zq4, zq5, zq6]
          refine wpAnyT_done (by kernel_rfl) ?_ _
          refine NoPanic.normal ?_
          obtain ⟨wr, rfl⟩ : ∃ z, z = wv := ⟨_, rfl⟩
          have hzw := hzr
          clear hzr
          go_upto_region 19 with (fail)
          refine wp_region_noPanic ?_
          refine wp_region_T (fun w' => w' = World.drew wr) (fun i => decide (10 ≤ i)) (by kernel_rfl) ?_
          have OS := Hi (OS.out.drew)
          have OH := Hi (OH.out.drew)
          have OR := Hi (OR.out.drew)
          have OW := Hi (owns_drew2 OW.out)
          have BL := Hi (BL.out.drew)
          generalize World.drew _ = wk at OS OH OR OW BL ⊢
          refine wpAnyT_take (i := 0) (v := .pointer (some ⟨d + 1 + 1 + 1, 1, none⟩)) rfl (by kernel_rfl) (by kernel_rfl) (by kernel_rfl) (by kernel_rfl) rfl (fun _ _ _ h => h) (Or.inl ⟨by rfl, fun w hS => by subst hS; (go_simp) <;> first | rfl | assumption | (intro hh; exfalso; omega) | (exact (i64_wraps _ (by omega) (by omega)).trans (by omega)) | omega⟩) rfl ?_
          simp only [Act.put, zq1, zq2, zq3, zq4, zq5, zq6]
          refine wpAnyT_take (i := 1) (v := .int .i64 (y : Int)) rfl (by kernel_rfl) (by kernel_rfl) (by kernel_rfl) (by kernel_rfl) rfl (fun _ _ _ h => h) (Or.inl ⟨by rfl, fun w hS => by subst hS; (have hc : w.cell? ⟨d + 1 + 1 + 1, 1, none⟩ = some (.int .i64 (y : Int)) := ((OS.out.cell 1).trans rfl); go_simp)⟩) rfl ?_
          simp only [Act.put, zq1, zq2, zq3, zq4, zq5, zq6]
          refine wpAnyT_take (i := 2) (v := .string s) rfl (by kernel_rfl) (by kernel_rfl) (by kernel_rfl) (by kernel_rfl) rfl (fun _ _ _ h => h) (Or.inl ⟨by rfl, fun w hS => by subst hS; (go_simp) <;> first | rfl | assumption | (intro hh; exfalso; omega) | (exact (i64_wraps _ (by omega) (by omega)).trans (by omega)) | omega⟩) rfl ?_
          simp only [Act.put, zq1, zq2, zq3, zq4, zq5, zq6]
          refine wpAnyT_take (i := 3) (v := .pointer (some ⟨d + 1 + 1 + 1, 2, none⟩)) rfl (by kernel_rfl) (by kernel_rfl) (by kernel_rfl) (by kernel_rfl) rfl (fun _ _ _ h => h) (Or.inl ⟨by rfl, fun w hS => by subst hS; (go_simp) <;> first | rfl | assumption | (intro hh; exfalso; omega) | (exact (i64_wraps _ (by omega) (by omega)).trans (by omega)) | omega⟩) rfl ?_
          simp only [Act.put, zq1, zq2, zq3, zq4, zq5, zq6]
          refine wpAnyT_take (i := 4) (v := .int .i64 ((p : Int) + 2)) rfl (by kernel_rfl) (by kernel_rfl) (by kernel_rfl) (by kernel_rfl) rfl (fun _ _ _ h => h) (Or.inl ⟨by rfl, fun w hS => by subst hS; (have hc : w.cell? ⟨d + 1 + 1 + 1, 2, none⟩ = some (.int .i64 ((p : Int) + 2)) := ((OS.out.cell 2).trans rfl); go_simp)⟩) rfl ?_
          simp only [Act.put, zq1, zq2, zq3, zq4, zq5, zq6]
          refine wpAnyT_take (i := 5) (v := .int .i64 ((p : Int) + 2 + 1)) rfl (by kernel_rfl) (by kernel_rfl) (by kernel_rfl) (by kernel_rfl) rfl (fun _ _ _ h => h) (Or.inl ⟨by rfl, fun w hS => by subst hS; (go_simp) <;> first | rfl | assumption | (intro hh; exfalso; omega) | (exact (i64_wraps _ (by omega) (by omega)).trans (by omega)) | omega⟩) rfl ?_
          simp only [Act.put, zq1, zq2, zq3, zq4, zq5, zq6]
          refine wpAnyT_take (i := 6) (v := .int .u8 (bY : Int)) rfl (by kernel_rfl) (by kernel_rfl) (by kernel_rfl) (by kernel_rfl) rfl (fun _ _ _ h => h) (Or.inl ⟨by rfl, fun w hS => by subst hS; (go_simp); exact idx_at s _ (p + 3) _ (by omega) (by omega) hby _⟩) rfl ?_
          simp only [Act.put, zq1, zq2, zq3, zq4, zq5, zq6]
          refine wpAnyT_take (i := 7) (v := .int .i64 (bY : Int)) rfl (by kernel_rfl) (by kernel_rfl) (by kernel_rfl) (by kernel_rfl) rfl (fun _ _ _ h => h) (Or.inl ⟨by rfl, fun w hS => by subst hS; (go_simp) <;> first | rfl | assumption | (intro hh; exfalso; omega) | (exact (i64_wraps _ (by omega) (by omega)).trans (by omega)) | omega⟩) rfl ?_
          simp only [Act.put, zq1, zq2, zq3, zq4, zq5, zq6]
          refine wpAnyT_take (i := 8) (v := .int .i64 ((y : Int) + (bY : Int))) rfl (by kernel_rfl) (by kernel_rfl) (by kernel_rfl) (by kernel_rfl) rfl (fun _ _ _ h => h) (Or.inl ⟨by rfl, fun w hS => by subst hS; (go_simp) <;> first | rfl | assumption | (intro hh; exfalso; omega) | (exact (i64_wraps _ (by omega) (by omega)).trans (by omega)) | omega⟩) rfl ?_
          simp only [Act.put, zq1, zq2, zq3, zq4, zq5, zq6]
          refine wpAnyT_take (i := 9) (v := .pointer (some ⟨d + 1 + 1 + 1, 1, none⟩)) rfl (by kernel_rfl) (by kernel_rfl) (by kernel_rfl) (by kernel_rfl) rfl (fun _ _ _ h => h) (Or.inl ⟨by rfl, fun w hS => by subst hS; (go_simp) <;> first | rfl | assumption | (intro hh; exfalso; omega) | (exact (i64_wraps _ (by omega) (by omega)).trans (by omega)) | omega⟩) rfl ?_
          simp only [Act.put, zq1, zq2, zq3, zq4, zq5, zq6]
          have cS := (OS.out.cell 1).trans (show _ = some (.int .i64 (y : Int)) from rfl)
          have fS := OS.out.frozen 1
          refine wpAnyT_one (i := 10) (by kernel_rfl) rfl rfl ?_
          intro K' hK
          go_simp
          have hzk := OS.out.lt
          have OS := Hi ((OS.out.set 1 (.int .i64 ((y : Int) + (bY : Int)))).cells (show _ = List.toArray [.int .i64 ((x : Int) + (bx : Int)), .int .i64 ((y : Int) + (bY : Int)), .int .i64 ((p : Int) + 2), .slice (some ⟨gL, 0, none⟩) N cL, .int .i64 0, .int .i64 0] from rfl))
          have OH := Hi (OH.out.set_other ⟨(d + 1 + 1 + 1), 1, none⟩ (.int .i64 ((y : Int) + (bY : Int))) (by simp <;> omega))
          have OR := Hi (OR.out.set_other ⟨(d + 1 + 1 + 1), 1, none⟩ (.int .i64 ((y : Int) + (bY : Int))) (by simp <;> omega))
          have OW := Hi (owns_set3 (o := 1) (OB := (d + 1 + 1 + 1)) OW.out (.int .i64 ((y : Int) + (bY : Int))) (by omega))
          have BL := Hi ((show Stored wk (d + 1 + 1 + 1) 1 [.int .i64 ((y : Int) + (bY : Int))] (wk.setCell ⟨(d + 1 + 1 + 1), 1, none⟩ (.int .i64 ((y : Int) + (bY : Int)))) from rfl).below BL.out (by omega))
          have hzr : d + 1 + 1 + 1 < (wk.setCell ⟨(d + 1 + 1 + 1), 1, none⟩ (.int .i64 ((y : Int) + (bY : Int)))).heap.size := by simp; omega
          generalize World.setCell _ _ _ = wv at OS OH OR OW BL hzr ⊢
          clear cS fS hzw hzk
          refine hK _ _ ?_
          clear hK K'
          try simp only [Act.put, zq1, zq2, zq3, zq4, zq5, zq6]
          refine wpAnyT_done (by kernel_rfl) ?_ _
          refine NoPanic.normal ?_
          obtain ⟨wr, rfl⟩ : ∃ z, z = wv := ⟨_, rfl⟩
          have hzw := hzr
          clear hzr
          have cS := (OS.out.cell 2).trans (show _ = some (.int .i64 ((p : Int) + 2)) from rfl)
          have fS := OS.out.frozen 2
          go_upto_region 21 with (fail)
          have OS := Hi ((OS.out.set 2 (.int .i64 ((p : Int) + 2 + 2))).cells (show _ = List.toArray [.int .i64 ((x : Int) + (bx : Int)), .int .i64 ((y : Int) + (bY : Int)), .int .i64 ((p : Int) + 2 + 2), .slice (some ⟨gL, 0, none⟩) N cL, .int .i64 0, .int .i64 0] from rfl))
          have OH := Hi (OH.out.set_other ⟨(d + 1 + 1 + 1), 2, none⟩ (.int .i64 ((p : Int) + 2 + 2)) (by simp <;> omega))
          have OR := Hi (OR.out.set_other ⟨(d + 1 + 1 + 1), 2, none⟩ (.int .i64 ((p : Int) + 2 + 2)) (by simp <;> omega))
          have OW := Hi (owns_set3 (o := 2) (OB := (d + 1 + 1 + 1)) OW.out (.int .i64 ((p : Int) + 2 + 2)) (by omega))
          have BL := Hi ((show Stored wr (d + 1 + 1 + 1) 2 [.int .i64 ((p : Int) + 2 + 2)] (wr.setCell ⟨(d + 1 + 1 + 1), 2, none⟩ (.int .i64 ((p : Int) + 2 + 2))) from rfl).below BL.out (by omega))
          have hzr : d + 1 + 1 + 1 < (wr.setCell ⟨(d + 1 + 1 + 1), 2, none⟩ (.int .i64 ((p : Int) + 2 + 2))).heap.size := by simp; omega
          generalize World.setCell _ _ _ = wv at OS OH OR OW BL hzr ⊢
          clear cS fS hzw
          obtain ⟨wr, rfl⟩ : ∃ z, z = wv := ⟨_, rfl⟩
          have hzw := hzr
          clear hzr
          have cH := (OH.out.cell 2).trans (show _ = some (.int .i64 (H : Int)) from rfl)
          have cW := (OH.out.cell 1).trans (show _ = some (.int .i64 (W : Int)) from rfl)
          have cX := (OS.out.cell 0).trans (show _ = some (.int .i64 ((x : Int) + (bx : Int))) from rfl)
          have cY := (OS.out.cell 1).trans (show _ = some (.int .i64 ((y : Int) + (bY : Int))) from rfl)
          have cS4 := (OS.out.cell 4).trans (show _ = some (.int .i64 0) from rfl)
          have hcase2 : (W < x + bx) ∨ (¬ W < x + bx ∧ H < y + bY) ∨ (¬ W < x + bx ∧ ¬ H < y + bY) := by omega
          rcases hcase2 with h6 | ⟨h6, h7⟩ | ⟨h6, h7⟩
          · as_aux_lemma =>
              have HRE := Hi (show R = .error (2, (p : Int)) by rw [← HRL.out]; unfold move22; rw [if_pos (Or.inl h6)])
              have h8 : (W : Int) < (x : Int) + (bx : Int) := by omega
              go_wp2_with (first
                | ((with_reducible refine skip_g rfl ?_ ?_); rfl; intro _)
                | ((go_at_call 93; (with_reducible refine (HBD.out _ 2 p).mono ?_); rintro e wb ⟨rfl, hb⟩); have OR := Hi (OR.out.below hb OR.out.lt); have BL := Hi (bthen hb BL.out (by omega)); clear hb)
                | (refine store_o rfl 59 5 _ _ rfl (d + 1) [.int .i64 0, .int .i64 0, .slice none 0 0, .int .i64 2, .int .i64 p] rfl rfl (by kernel_rfl) (by kernel_rfl) (by kernel_rfl) OR.out (by first | rfl | simp) ?_; intro ws hst hO; have OR := Hi hO; have BL := Hi (hst.below BL.out (by omega)); clear hst hO))
              refine bodyPost_ret (v := .agg (List.toArray [.int .i64 0, .int .i64 0, .slice none 0 0, .int .i64 2, .int .i64 p])) ?_ rfl ?_
              · exact results_c Tryz.results25 _ _ _ [.int .i64 0, .int .i64 0, .slice none 0 0, .int .i64 2, .int .i64 p] _ rfl OR.out.range0 Tryz.underlying59 rfl (by kernel_rfl)
              · rw [show R = .error (2, p) from HRE.out]
                exact ⟨by rfl, by rw [HD0.out]; exact BL.out⟩
          · as_aux_lemma =>
              have HRE := Hi (show R = .error (2, (p : Int)) by rw [← HRL.out]; unfold move22; rw [if_pos (Or.inr h7)])
              have h8 : ¬ (W : Int) < (x : Int) + (bx : Int) := by omega
              have h9 : (H : Int) < (y : Int) + (bY : Int) := by omega
              go_wp2_with (first
                | ((with_reducible refine skip_g rfl ?_ ?_); rfl; intro _)
                | ((go_at_call 93; (with_reducible refine (HBD.out _ 2 p).mono ?_); rintro e wb ⟨rfl, hb⟩); have OR := Hi (OR.out.below hb OR.out.lt); have BL := Hi (bthen hb BL.out (by omega)); clear hb)
                | (refine store_o rfl 59 5 _ _ rfl (d + 1) [.int .i64 0, .int .i64 0, .slice none 0 0, .int .i64 2, .int .i64 p] rfl rfl (by kernel_rfl) (by kernel_rfl) (by kernel_rfl) OR.out (by first | rfl | simp) ?_; intro ws hst hO; have OR := Hi hO; have BL := Hi (hst.below BL.out (by omega)); clear hst hO))
              refine bodyPost_ret (v := .agg (List.toArray [.int .i64 0, .int .i64 0, .slice none 0 0, .int .i64 2, .int .i64 p])) ?_ rfl ?_
              · exact results_c Tryz.results25 _ _ _ [.int .i64 0, .int .i64 0, .slice none 0 0, .int .i64 2, .int .i64 p] _ rfl OR.out.range0 Tryz.underlying59 rfl (by kernel_rfl)
              · rw [show R = .error (2, p) from HRE.out]
                exact ⟨by rfl, by rw [HD0.out]; exact BL.out⟩
          · as_aux_lemma =>
              have HRL := Hi (show rle22 s tb M W H dp te f ⟨x + bx, y + bY, p + 4, L⟩ = R by rw [← HRL.out]; unfold move22; rw [if_neg (by omega)])
              have HG2 := Hi (show Good22 W H te ⟨x + bx, y + bY, p + 4, L⟩ from ⟨by show x + bx ≤ W; omega, by show y + bY ≤ H; omega, by show p + 4 ≤ te; omega, HGOOD.out.2.2.2.1, HGOOD.out.2.2.2.2⟩)
              have h8 : ¬ (W : Int) < (x : Int) + (bx : Int) := by omega
              have h9 : ¬ (H : Int) < (y : Int) + (bY : Int) := by omega
              go_wp2_with ((with_reducible refine skip_g rfl ?_ ?_); rfl; intro _)
              go_roundw
              case rel =>
                have e4 : ((p + 4 : Nat) : Int) = (p : Int) + 2 + 2 := by omega
                refine ⟨⟨x + bx, y + bY, p + 4, L⟩, f, gL, cL, HG2.out, by show te < p + 4 + f; omega, HRL.out, ?_, OW.out, hgL, OH.out, OR.out, BL.out⟩
                show Obj1 _ _ (List.toArray [.int .i64 ((x + bx : Nat) : Int), .int .i64 ((y + bY : Nat) : Int), .int .i64 ((p + 4 : Nat) : Int), .slice (some ⟨gL, 0, none⟩) N cL, .int .i64 0, .int .i64 0]) _
                rw [e4, Int.natCast_add, Int.natCast_add]
                exact OS.out
              case measure =>
                have hmN : intOf ((wr.cell? ⟨d + 1 + 1 + 1, 2, none⟩).getD undef) = (p : Int) + 2 + 2 := by rw [OS.out.cell 2]; rfl
                rw [hmN]; omega
end Go.Proofs.YtlfbaggcfaenlaaGreat

/- icodir.Bytes, walked. -/
import Derived.Test.YtomikbecbbjhoaaIB
namespace Go.Proofs.Ytomikbecbbjhoaa
open Go.RowKit
set_option linter.unusedVariables false
set_option linter.unusedSimpArgs false
/-- Entries that came in. -/
def EntsAt (w : World) (a : Option Addr) (n : Nat) (E : Nat → Ent) : Prop := n = 0 ∨ ∃ B o, a = some ⟨B, o, none⟩ ∧ B < w.heap.size ∧ ∀ i, i < n → w.rangeAt B (o + i * 6) (E i).cells
theorem EntsAt.below {w w' : World} {a : Option Addr} {n : Nat} {E : Nat → Ent} (h : EntsAt w a n E) (hb : Below w.heap.size w w') : EntsAt w' a n E := by
  rcases h with h | ⟨B, o, rfl, hB, hc⟩
  · exact Or.inl h
  · exact Or.inr ⟨B, o, rfl, Nat.lt_of_lt_of_le hB hb.size, fun i hi => range_below (hc i hi) hb hB⟩
def putE (L : List Int) (e : Ent) : List Int := L ++ bytesF e.W 1 ++ bytesF e.H 1 ++ bytesF 0 2 ++ bytesF e.A 2 ++ bytesF e.B 2 ++ bytesF e.Z 4 ++ bytesF e.P 4
def dirB (cur : Bool) (n : Nat) (E : Nat → Ent) : Nat → List Int
  | 0 => bytesF 0 2 ++ bytesF (bif cur then 2 else 1) 2 ++ bytesF n 2
  | k + 1 => putE (dirB cur n E k) (E k)
theorem dirB_len (cur : Bool) (n : Nat) (E : Nat → Ent) (k : Nat) : (dirB cur n E k).length = 6 + 16 * k := by
  induction k with
  | zero => simp [dirB, bytesF_len]
  | succ k ih => simp [dirB, putE, bytesF_len, ih]; omega
def goodTo (E : Nat → Ent) : Nat → Bool
  | 0 => true
  | k + 1 => goodTo E k && (E k).right
theorem iput_b {v m : Int} {n OB base B : Nat} {L : List Int} {u : Value} {w W : World} (hm : m = n) (hn : n ≤ 4) (hL : L.length ≤ 4000) (h : OutAt w OB base L u) (hB : Below B W w) (hBO : B ≤ OB) :
    Calls Try.prog 84 #[.int .i64 v, .int .i64 m, .pointer (some ⟨OB, 0, none⟩)] w fun e w' => ∃ u', e = .returned (.tuple #[]) ∧ OutAt w' OB base (L ++ bytesF v n) u' ∧ Below B W w' := by
  subst hm
  refine (iput_any v n OB base L u w hn hL h).mono ?_
  rintro e w' ⟨rfl, u', hO, hC, hg⟩
  have := h.lt
  have := h.bs
  refine ⟨u', rfl, hO, bchg hB hC (by omega) fun k hk => ?_⟩
  rcases hk with rfl | hk
  · exact hBO
  · have := (owns_blk h.own hk).1; omega
theorem iput_c {v m : Int} {n OB base B d : Nat} {L : List Int} {u : Value} {w W : World} {cs : Array Value} {T : TypeId} (hm : m = n) (hn : n ≤ 4) (hL : L.length ≤ 4000) (h : OutAt w OB base L u) (hB : Below B W w) (hBO : B ≤ OB) (hO : Obj1 w d cs T) (hd : d ≠ OB) (hu : u.ownBlock ≠ some d) :
    Calls Try.prog 84 #[.int .i64 v, .int .i64 m, .pointer (some ⟨OB, 0, none⟩)] w fun e w' => ∃ u', e = .returned (.tuple #[]) ∧ OutAt w' OB base (L ++ bytesF v n) u' ∧ Below B W w' ∧ Obj1 w' d cs T ∧ u'.ownBlock ≠ some d := by
  subst hm
  refine (iput_any v n OB base L u w hn hL h).mono ?_
  rintro e w' ⟨rfl, u', hA, hC, hg⟩
  have := h.lt
  have := h.bs
  refine ⟨u', rfl, hA, bchg hB hC (by omega) fun k hk => ?_, hC.obj hO ?_, not_own2 hg hu hO.lt⟩
  · rcases hk with rfl | hk
    · exact hBO
    · have := (owns_blk h.own hk).1; omega
  · rintro (rfl | hk)
    · exact hd rfl
    · exact hu hk
theorem out_conv {w : World} {OB base : Nat} {L : List Int} {u : Value} (h : OutAt w OB base L u) (hn : 0 < L.length) (src dst e' : TypeId) (hs : Try.prog.underlying src = some (.slice e')) (he : Try.prog.underlying e' = some (.int .u8)) (hd : Try.prog.underlying dst = some .string) :
    (convert src dst u).run Try.prog w = .ok (.string (strOf L)) w := by
  obtain ⟨h1, h2⟩ := h.own
  rcases h2 with ⟨-, h0⟩ | ⟨g, cap, cur, rfl, hb, hg, h3, h4, h5, h6⟩
  · omega
  · refine conv_str w g L.length cap L rfl (fun j v hv => ?_) src dst e' hs he hd
    rw [Obj1.cell (T := 5) (cs := cur) hg, Nat.zero_add]
    rw [← h6, List.getElem?_take] at hv
    split at hv
    · simpa using hv
    · cases hv
theorem stored_chg {w w2 : World} {b o : Nat} {vs : List Value} (hst : Stored w b o vs w2) : Chg (fun k => k = b) w w2 := by
  rw [show w2 = _ from hst]; clear hst
  have key : ∀ (vs : List Value) (a w : World) (o : Nat), Chg (fun k => k = b) a w → Chg (fun k => k = b) a (w.setCells b o vs) := by
    intro vs
    induction vs with
    | nil => intro a w o h; exact h
    | cons v r ih => intro a w o h; rw [World.setCells]; exact ih a _ _ (h.set ⟨b, o, none⟩ v (Or.inl rfl))
  exact key vs w w o (Chg.refl _ w)
theorem OutAt.chg {w w' : World} {OB base : Nat} {L : List Int} {u : Value} (h : OutAt w OB base L u) {S : Nat → Prop} (hC : Chg S w w') (hO : ¬ S OB) (hu : ∀ k, u.ownBlock = some k → ¬ S k) : OutAt w' OB base L u := by
  refine ⟨hC.obj h.cell hO, ?_, h.lt, Nat.le_trans h.bs hC.size⟩
  obtain ⟨h1, h2⟩ := h.own
  refine ⟨h1, ?_⟩
  rcases h2 with h2 | ⟨g, cap, cur, rfl, hb, hg, rest⟩
  · exact Or.inl h2
  · exact Or.inr ⟨g, cap, cur, rfl, hb, hC.obj (T := 5) (cs := cur) hg (hu g rfl), rest⟩
theorem OutAt.under {w w' : World} {OB base : Nat} {L : List Int} {u : Value} (h : OutAt w OB base L u) (hb : Below w.heap.size w w') : OutAt w' OB base L u :=
  h.chg (chg_of_below hb (fun _ => False)) (fun h => h) (fun _ _ h => h)
theorem OutAt.alloc {w : World} {OB base : Nat} {L : List Int} {u : Value} (h : OutAt w OB base L u) (o : Obj) : OutAt (w.alloc o) OB base L u :=
  h.chg ((Chg.refl (fun _ => False) w).alloc o) (fun h => h) (fun _ _ h => h)
theorem goodTo_bad (E : Nat → Ent) {i : Nat} (h : (E i).right = false) : ∀ n, i < n → goodTo E n = false
  | 0, hn => absurd hn (by omega)
  | k + 1, hn => by
    by_cases hk : i < k
    · rw [goodTo, goodTo_bad E h k hk]; rfl
    · obtain rfl : i = k := by omega
      rw [goodTo, h, Bool.and_false]
def IBytesPost (w : World) (cur : Bool) (n : Nat) (E : Nat → Ent) (e : Ending) (w' : World) : Prop :=
  e = .returned (.tuple #[.string (bif n == 0 || !goodTo E n then ByteArray.empty else strOf (dirB cur n E n)), .int .i64 (bif n == 0 || !goodTo E n then 2 else 0)]) ∧ Below w.heap.size w w'
set_option maxRecDepth 100000 in
set_option maxHeartbeats 8000000 in
theorem ibytes_any (cur : Bool) (a : Option Addr) (n c : Nat) (E : Nat → Ent) (w : World) (hn : n ≤ 200) (h : EntsAt w a n E) : Calls Try.prog 44 #[.bool cur, .slice a n c] w (IBytesPost w cur n E) := by
  unfold IBytesPost
  by_cases h0 : n = 0
  · subst h0
    go_enter Try.func44, Try.ntmps44
    go_wp2_with ((with_reducible refine skip_g rfl ?_ ?_); rfl; intro _)
    go_ret2
    exact ⟨rfl, Below.refl _ _⟩
  have hc0 : (n == 0) = false := by simp [h0]
  have hi0 : ((n : Int) == 0) = false := by simp; omega
  have hi1 : decide ((n : Int) > 65535) = false := by rw [decide_eq_false_iff_not]; omega
  rw [hc0]
  have HC := Lib.hid h
  have HB := Lib.hid ((Below.refl w.heap.size w).alloc (Nat.le_refl _) (.cells #[.slice none 0 0] 100))
  have HO := Lib.hid (show OutAt (w.alloc (.cells #[.slice none 0 0] 100)) w.heap.size (w.heap.size + 1) [] (.slice none 0 0) from ⟨obj1_new w _ _, ⟨rfl, Or.inl ⟨rfl, rfl⟩⟩, by omega, by simp⟩)
  obtain ⟨kd, hkd⟩ : ∃ k : Int, (bif cur then 2 else 1) = k := ⟨_, rfl⟩
  have HK := Lib.hid hkd
  obtain ⟨OB, hOB⟩ : ∃ b, w.heap.size = b := ⟨_, rfl⟩
  go_enter Try.func44, Try.ntmps44
  go_upto_if 19 with (fail)
  go_cut [6] from 20 to 20 (fun c6 wx => wx = w ∧ c6 = .int .i64 kd)
  case first =>
    cases cur
    · go_wp2_with (fail)
      go_meet
      exact ⟨rfl, by rw [← HK.out]; rfl⟩
    · go_wp2_with (fail)
      go_meet
      exact ⟨rfl, by rw [← HK.out]; rfl⟩
  case rest =>
    obtain ⟨rfl, rfl⟩ := hcut
    go_upto_region 8 with (fail)
    rw [hOB] at HO HB
    generalize World.alloc _ _ = w1 at HB HO ⊢
    go_wp2_with ((go_at_call 84; (with_reducible refine (iput_b (n := 2) (by simp) (by omega) (by simp [bytesF_len]) HO.out HB.out (Nat.le_refl _)).mono ?_); rintro e w2 ⟨u2, rfl, hA, hb⟩); have HO := Lib.hid hA; have HB := Lib.hid hb; clear hA hb)
    go_loopw [10, 32] (fun q10 c wr => ∃ (i : Nat) (u : Value), i ≤ n ∧ c = .int .i64 i ∧ goodTo E i = true ∧ OutAt wr OB (OB + 1) (dirB cur n E i) u ∧ Below OB wc wr) (fun _ c _ => n - (intOf c).toNat)
    case atStart => exact ⟨0, _, by omega, rfl, rfl, by simpa [dirB, HK.out] using HO.out, HB.out⟩
    case round =>
      obtain ⟨i, u, hi, rfl, hgd, hO, hb⟩ := hrel
      have HO := Lib.hid hO
      have HB := Lib.hid hb
      have zOB := hO.cell.lt
      have zbs := hO.bs
      clear hO hb
      by_cases hlt : i < n
      rotate_left
      · have hge : n ≤ i := by omega
        obtain rfl : i = n := by omega
        have c7 : wr.cell? ⟨OB, 0, none⟩ = some u := (HO.out.cell.cell 0).trans rfl
        have CV := out_conv HO.out (by rw [dirB_len]; omega) _ _ _ Try.underlying100 Try.underlying5 Try.underlying9
        go_wp2_with (fail)
        go_ret2
        exact ⟨by rw [hgd]; rfl, by rw [hOB]; exact HB.out⟩
      · have hge : ¬ n ≤ i := by omega
        obtain ⟨B, o, rfl, hBl, hcs⟩ := HC.out.resolve_left h0
        have hR := Lib.hid (range_below (hcs i hlt) HB.out (by omega))
        clear hcs
        -- GEN
        have O10 := Lib.hid (obj1_new wr #[.int .i64 0, .int .i64 0, .int .i64 0, .int .i64 0, .int .i64 0, .int .i64 0] 59)
        have HN := Lib.hid (show u.ownBlock ≠ some wr.heap.size from fun e => by have := (owns_blk HO.out.own e).2; omega)
        have HO := Lib.hid (HO.out.alloc (.cells #[.int .i64 0, .int .i64 0, .int .i64 0, .int .i64 0, .int .i64 0, .int .i64 0] 59))
        have HB := Lib.hid (HB.out.alloc (by omega) (.cells #[.int .i64 0, .int .i64 0, .int .i64 0, .int .i64 0, .int .i64 0, .int .i64 0] 59))
        obtain ⟨r, hr⟩ : ∃ r, (E i).right = r := ⟨_, rfl⟩
        obtain ⟨d10, hd10⟩ : ∃ d, wr.heap.size = d := ⟨_, rfl⟩
        rw [hd10] at O10 HN zOB
        have hdO : d10 ≠ OB := by omega
        go_upto_region 14 with (first
          | (refine load_r rfl 59 _ rfl B (o + i * 6) (E i).cells rfl hR.out Try.underlying59 rfl (by kernel_rfl) ?_; intro _)
          | (refine store_o rfl 59 6 _ _ rfl d10 (E i).cells rfl rfl (by kernel_rfl) (by kernel_rfl) (by kernel_rfl) O10.out (by first | rfl | simp) ?_; intro ws hst hO; have O10 := Lib.hid hO; have HO := Lib.hid (HO.out.chg (stored_chg hst) (by omega) (fun k hk e => HN.out (e ▸ hk))); have HB := Lib.hid (hst.below HB.out (by omega)); clear hst hO))
        cases r
        · go_wp2_with (first
            | (refine load_u (by kernel_rfl) 59 6 _ rfl d10 (E i).cells rfl rfl O10.out Try.underlying59 rfl (by kernel_rfl) ?_; intro _)
            | ((go_at_call 85; (with_reducible refine (right_any (E i) false _ hr).mono ?_); rintro e w5 ⟨rfl, hb5⟩); have HB := Lib.hid (bthen hb5 HB.out (by have := O10.out.lt; omega)); clear hb5))
          go_ret2
          exact ⟨by rw [goodTo_bad E hr n hlt]; rfl, by rw [hOB]; exact HB.out⟩
        · go_upto_region 16 with (first
            | (refine load_u (by kernel_rfl) 59 6 _ rfl d10 (E i).cells rfl rfl O10.out Try.underlying59 rfl (by kernel_rfl) ?_; intro _)
            | ((go_at_call 85; (with_reducible refine (right_any (E i) true _ hr).mono ?_); rintro e w5 ⟨rfl, hb5⟩); have HB := Lib.hid (bthen hb5 HB.out (by have := O10.out.lt; omega)); have HO := Lib.hid (HO.out.under hb5); have O10 := Lib.hid (O10.out.below hb5 O10.out.lt); clear hb5))
          have k0 : w5.cell? ⟨d10, 0, none⟩ = some (.int .i64 (E i).W) := (O10.out.cell 0).trans rfl
          have k1 : w5.cell? ⟨d10, 1, none⟩ = some (.int .i64 (E i).H) := (O10.out.cell 1).trans rfl
          have k2 : w5.cell? ⟨d10, 2, none⟩ = some (.int .i64 (E i).A) := (O10.out.cell 2).trans rfl
          have k3 : w5.cell? ⟨d10, 3, none⟩ = some (.int .i64 (E i).B) := (O10.out.cell 3).trans rfl
          have k4 : w5.cell? ⟨d10, 4, none⟩ = some (.int .i64 (E i).Z) := (O10.out.cell 4).trans rfl
          have k5 : w5.cell? ⟨d10, 5, none⟩ = some (.int .i64 (E i).P) := (O10.out.cell 5).trans rfl
          go_wp2_with (first
            | ((go_at_call 84; (with_reducible refine (iput_c (m := 1) (n := 1) (by simp) (by omega) (by simp only [List.length_append, bytesF_len, dirB_len]; omega) HO.out HB.out (Nat.le_refl _) O10.out hdO HN.out).mono ?_); rintro e w6 ⟨u2, rfl, hA, hb, h10, hn10⟩); have HO := Lib.hid hA; have HB := Lib.hid hb; have O10 := Lib.hid h10; have HN := Lib.hid hn10; clear hA hb h10 hn10 k0 k1 k2 k3 k4 k5; have k0 : w6.cell? ⟨d10, 0, none⟩ = some (.int .i64 (E i).W) := (O10.out.cell 0).trans rfl; have k1 : w6.cell? ⟨d10, 1, none⟩ = some (.int .i64 (E i).H) := (O10.out.cell 1).trans rfl; have k2 : w6.cell? ⟨d10, 2, none⟩ = some (.int .i64 (E i).A) := (O10.out.cell 2).trans rfl; have k3 : w6.cell? ⟨d10, 3, none⟩ = some (.int .i64 (E i).B) := (O10.out.cell 3).trans rfl; have k4 : w6.cell? ⟨d10, 4, none⟩ = some (.int .i64 (E i).Z) := (O10.out.cell 4).trans rfl; have k5 : w6.cell? ⟨d10, 5, none⟩ = some (.int .i64 (E i).P) := (O10.out.cell 5).trans rfl)
            | ((go_at_call 84; (with_reducible refine (iput_c (m := 2) (n := 2) (by simp) (by omega) (by simp only [List.length_append, bytesF_len, dirB_len]; omega) HO.out HB.out (Nat.le_refl _) O10.out hdO HN.out).mono ?_); rintro e w6 ⟨u2, rfl, hA, hb, h10, hn10⟩); have HO := Lib.hid hA; have HB := Lib.hid hb; have O10 := Lib.hid h10; have HN := Lib.hid hn10; clear hA hb h10 hn10 k0 k1 k2 k3 k4 k5; have k0 : w6.cell? ⟨d10, 0, none⟩ = some (.int .i64 (E i).W) := (O10.out.cell 0).trans rfl; have k1 : w6.cell? ⟨d10, 1, none⟩ = some (.int .i64 (E i).H) := (O10.out.cell 1).trans rfl; have k2 : w6.cell? ⟨d10, 2, none⟩ = some (.int .i64 (E i).A) := (O10.out.cell 2).trans rfl; have k3 : w6.cell? ⟨d10, 3, none⟩ = some (.int .i64 (E i).B) := (O10.out.cell 3).trans rfl; have k4 : w6.cell? ⟨d10, 4, none⟩ = some (.int .i64 (E i).Z) := (O10.out.cell 4).trans rfl; have k5 : w6.cell? ⟨d10, 5, none⟩ = some (.int .i64 (E i).P) := (O10.out.cell 5).trans rfl)
            | ((go_at_call 84; (with_reducible refine (iput_c (m := 4) (n := 4) (by simp) (by omega) (by simp only [List.length_append, bytesF_len, dirB_len]; omega) HO.out HB.out (Nat.le_refl _) O10.out hdO HN.out).mono ?_); rintro e w6 ⟨u2, rfl, hA, hb, h10, hn10⟩); have HO := Lib.hid hA; have HB := Lib.hid hb; have O10 := Lib.hid h10; have HN := Lib.hid hn10; clear hA hb h10 hn10 k0 k1 k2 k3 k4 k5; have k0 : w6.cell? ⟨d10, 0, none⟩ = some (.int .i64 (E i).W) := (O10.out.cell 0).trans rfl; have k1 : w6.cell? ⟨d10, 1, none⟩ = some (.int .i64 (E i).H) := (O10.out.cell 1).trans rfl; have k2 : w6.cell? ⟨d10, 2, none⟩ = some (.int .i64 (E i).A) := (O10.out.cell 2).trans rfl; have k3 : w6.cell? ⟨d10, 3, none⟩ = some (.int .i64 (E i).B) := (O10.out.cell 3).trans rfl; have k4 : w6.cell? ⟨d10, 4, none⟩ = some (.int .i64 (E i).Z) := (O10.out.cell 4).trans rfl; have k5 : w6.cell? ⟨d10, 5, none⟩ = some (.int .i64 (E i).P) := (O10.out.cell 5).trans rfl))
          go_roundw
          case rel => exact ⟨i + 1, u2, by omega, by go_num, by rw [goodTo, hgd, hr]; rfl, HO.out, HB.out⟩
          case measure => simp [intOf]; omega
end Go.Proofs.Ytomikbecbbjhoaa

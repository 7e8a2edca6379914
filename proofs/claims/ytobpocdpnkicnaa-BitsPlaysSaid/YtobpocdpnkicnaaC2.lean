/- The bit reader's Read, walked (printed by gen_bits.py). -/
import Derived.Test.YtobpocdpnkicnaaC1
namespace Go.Proofs.Ytobpocdpnkicnaa
open Go.RowKit
set_option linter.unusedVariables false
def Led.adv (l : Led) (k : Int) : Led := { l with st := l.st + k }
theorem Led.work1 {l : Led} (hb : l.br = false) (he : l.st + 1 ≤ l.mx) : l.work 1 = (l.adv 1, true) := by
  unfold Led.work
  rw [if_neg (by rw [hb]; decide), if_neg (by omega)]; rfl
theorem extract1 (s : ByteArray) (p : Nat) (h : p < s.size) : numB (s.extract p (p + 1)) true = byN s p := by
  have hz : (s.extract p (p + 1)).size = 1 := by rw [ByteArray.size_extract]; omega
  unfold numB
  rw [if_pos rfl, hz]
  show (0 : Int) + byN (s.extract p (p + 1)) 0 * 2 ^ 0 = _
  have : byN (s.extract p (p + 1)) 0 = byN s p := by
    rw [← byN_get _ 0 (by omega), ← byN_get s p h]
    congr 2
    rw [ByteArray.getElem_extract]; rfl
  rw [this]; simp
theorem u8_at (X L : Nat) (s : ByteArray) (p : Nat) (l : Led) (w : World) (h : Pair w X ⟨L, s, 0, s.size, p⟩ l) (hp : p < s.size) (hb : l.br = false) (he : l.st + 1 ≤ l.mx) :
    Calls Try.prog 84 #[.pointer (some ⟨X, 0, none⟩)] w (NumPost w X ⟨L, s, 0, s.size, p⟩ ⟨L, s, 0, s.size, p + 1⟩ (l.adv 1) (byN s p) true) := by
  refine (u8_any X _ l w h).mono fun e w' hh => ?_
  have hn : Sr.next ⟨L, s, 0, s.size, p⟩ l 1 = ((⟨L, s, 0, s.size, p + 1⟩, l.adv 1), (s.extract p (p + 1), true)) := by
    unfold Sr.next
    rw [Led.work1 hb he, if_pos ⟨rfl, by decide, by simp only; omega⟩]; rfl
  exact num_at hh hn (extract1 s p hp)
theorem u8_end (X L : Nat) (s : ByteArray) (l : Led) (w : World) (h : Pair w X ⟨L, s, 0, s.size, s.size⟩ l) :
    Calls Try.prog 84 #[.pointer (some ⟨X, 0, none⟩)] w (NumPost w X ⟨L, s, 0, s.size, s.size⟩ ⟨L, s, 0, s.size, s.size⟩ (l.work 1).1 0 false) := by
  refine (u8_any X _ l w h).mono fun e w' hh => ?_
  have hn : Sr.next ⟨L, s, 0, s.size, s.size⟩ l 1 = ((⟨L, s, 0, s.size, s.size⟩, (l.work 1).1), (ByteArray.empty, false)) := by
    unfold Sr.next
    rw [if_neg (by intro h; have := h.2.2; simp only at this; omega)]
  exact num_at hh hn num0
/-- What reading n bits comes to. -/
def BRead (w : World) (K X L : Nat) (s : ByteArray) (low : Bool) (t : Nat) (l : Led) (n : Nat) (e : Ending) (w' : World) : Prop :=
  (t + n ≤ 8 * s.size ∧ e = .returned (.tuple #[.int .i64 (joinK s low t n), .bool true]) ∧ BitsAt w' K X L s low (t + n) (l.adv (((t + n + 7) / 8 - (t + 7) / 8 : Nat) : Int)) ∧ Chg (three K X L) w w') ∨
  (8 * s.size < t + n ∧ e = .returned (.tuple #[.int .i64 0, .bool false]) ∧ (∃ l', Pair w' X ⟨L, s, 0, s.size, s.size⟩ l') ∧ Chg (three K X L) w w')
theorem BitsAt.more {w : World} {K X L : Nat} {s : ByteArray} {low : Bool} {t : Nat} {l l' : Led} {now : Int} {z : Nat} (ho : Obj1 w K (btCells X now z low) 153) (hz : z = (8 - t % 8) % 8) (hn : t % 8 ≠ 0 → now = byN s (t / 8)) {p : Nat} (hpr : Pair w X ⟨L, s, 0, s.size, p⟩ l) (hp : p = (t + 7) / 8) (h1 : K ≠ X) (h2 : K ≠ L) (h3 : l.br = false) (h4 : l.st + (s.size - p : Nat) ≤ l.mx) (hl : l = l') : BitsAt w K X L s low t l' := by
  subst hz hp hl; exact ⟨⟨now, ho, hn⟩, hpr, h1, h2, h3, h4⟩
theorem three_two {K X L : Nat} {s : ByteArray} {b e p : Nat} (k : Nat) (h : two X ⟨L, s, b, e, p⟩ k) : three K X L k := Or.inr h
theorem Pair.put {w : World} {X K i : Nat} {x : Sr} {l : Led} (h : Pair w X x l) (v : Value) (h1 : K ≠ X) (h2 : K ≠ x.L) : Pair (w.setCell ⟨K, i, none⟩ v) X x l := ⟨⟨h.src.obj.set_other _ _ (fun e => h1 e.symm), h.src.ok, h.src.ne⟩, h.led.put _ (fun e => h2 e.symm)⟩
theorem Pair.drewN {w : World} {X : Nat} {x : Sr} {l : Led} (h : Pair w X x l) (n : Nat) : Pair (w.drewN n) X x l := ⟨h.src.drewN n, h.led.drewN n⟩
theorem not_two {K X L : Nat} {s : ByteArray} {b e p : Nat} (h1 : K ≠ X) (h2 : K ≠ L) : ¬ two X ⟨L, s, b, e, p⟩ K := by
  intro h; rcases h with h | h
  · exact h1 h
  · exact h2 h
set_option maxRecDepth 100000 in
set_option maxHeartbeats 4000000 in
theorem bread_false (K X L : Nat) (s : ByteArray) (t : Nat) (l : Led) (n : Nat) (w : World) (hn : n ≤ 32) (h : BitsAt w K X L s false t l) (ht : t ≤ 8 * s.size) (hs : s.size ≤ 1000000) : Calls Try.prog 58 #[.pointer (some ⟨K, 0, none⟩), .int .i64 n] w (BRead w K X L s false t l n) := by
  have hl0 : 0 ≤ l.st := h.pair.led.ok.s0
  have H := Lib.hid h
  have hKX := h.nx
  have hKL := h.nl
  clear h
  have G1 : decide ((n : Int) < 0) = false := by rw [decide_eq_false_iff_not]; omega
  have G2 : decide ((n : Int) > 32) = false := by rw [decide_eq_false_iff_not]; omega
  go_enter Try.func58, Try.ntmps58
  go_wp2
  go_loopw [6, 7, 8, 9, 17] (fun v q8 q9 q10 c wr => ∃ i : Nat, i ≤ n ∧ c = .int .i64 i ∧ v = .int .i64 (joinK s false t i) ∧ t + i ≤ 8 * s.size ∧ BitsAt wr K X L s false (t + i) (l.adv (((t + i + 7) / 8 - (t + 7) / 8 : Nat) : Int)) ∧ Chg (three K X L) w wr) (fun _ _ _ _ c _ => n - (intOf c).toNat)
  case atStart => exact ⟨0, by omega, rfl, rfl, by omega, by have := H.out; simpa [Led.adv] using this, Chg.refl _ _⟩
  case round =>
    obtain ⟨i, hi, rfl, rfl, hti, hB, hC⟩ := hrel
    have HB := Lib.hid hB
    have HC := Lib.hid hC
    obtain ⟨now, ho, hnow⟩ := hB.obj
    have c0 : wr.cell? ⟨K, 0, none⟩ = some (.pointer (some ⟨X, 0, none⟩)) := (ho.cell 0).trans rfl
    have HO := Lib.hid ho
    have HNOW := Lib.hid hnow
    clear hB hC hnow
    by_cases hlt : i < n
    rotate_left
    · have hge : n ≤ i := by omega
      have E := Lib.hid (show i = n by omega)
      clear ho
      go_wp2
      go_ret2
      have e := E.out
      subst e
      exact Or.inl ⟨hti, rfl, HB.out, HC.out⟩
    by_cases hav : t + i < 8 * s.size
    rotate_left
    · have hp : (t + i + 7) / 8 = s.size := by omega
      have c2 : wr.cell? ⟨K, 2, none⟩ = some (.int .i64 0) := (ho.cell 2).trans (by unfold btCells; rw [show (8 - (t + i) % 8) % 8 = 0 by omega]; rfl)
      have HP := HB.out.pair
      rw [hp] at HP
      have HU := Lib.hid (u8_end X L s _ wr HP)
      clear HP hp ho
      go_wp2_with (go_at_call 84; (with_reducible refine (HU.out).mono ?_); rintro e w1 ⟨rfl, hP1, hC1⟩)
      go_ret2
      exact Or.inr ⟨by omega, rfl, ⟨_, hP1⟩, HC.out.trans (hC1.mono fun k _ => three_two k)⟩
    have hby := byN_bd s ((t + i) / 8)
    obtain ⟨nw, hnw⟩ : ∃ nw : Nat, byN s ((t + i) / 8) = nw := ⟨_, (Int.toNat_of_nonneg hby.1).symm⟩
    have hnw8 : nw < 256 := by omega
    have hbt := bitAt_bd s false (t + i)
    have hjb := joinK_bd s false t i
    have hj2 := pow_le' (show i ≤ 32 by omega)
    have h32 : (2 : Int) ^ 32 = 4294967296 := by decide
    have HNK := Lib.hid (fun p => not_two (s := s) (b := 0) (e := s.size) (p := p) hKX hKL)
    by_cases hz : (t + i) % 8 = 0
    · have c2 : wr.cell? ⟨K, 2, none⟩ = some (.int .i64 0) := (ho.cell 2).trans (by unfold btCells; rw [show (8 - (t + i) % 8) % 8 = 0 by omega]; rfl)
      have hp : (t + i + 7) / 8 = (t + i) / 8 := by omega
      have HP := HB.out.pair
      rw [hp] at HP
      have hen := HB.out.enough
      rw [hp] at hen
      have HEN := Lib.hid hen
      have HU := Lib.hid (u8_at X L s _ _ wr HP (by omega) HB.out.br (by omega))
      have HN := Lib.hid hnw
      rw [hnw] at HU
      have BV := Lib.hid (show (nw : Int) / 2 ^ (8 - 1) % 2 = bitAt s false (t + i) by rw [← hnw]; unfold bitAt; rw [hz]; rfl)
      obtain ⟨b, hb⟩ : ∃ b, bitAt s false (t + i) = b := ⟨_, rfl⟩
      obtain ⟨v, hv⟩ : ∃ v, joinK s false t i = v := ⟨_, rfl⟩
      rw [hb] at BV hbt
      rw [hv] at hjb
      have JV := Lib.hid (show joinK s false t (i + 1) = 2 * v + b by rw [joinK, if_neg (by decide), hb, hv])
      have HH := Lib.hid (fun w0 => (highest_any nw 8 w0 hnw8 (by decide) (by decide)).mono (R' := fun e w' => e = .returned (.int .i64 b) ∧ w' = w0) fun e w' hh => by rw [BV.out] at hh; exact ⟨hh.1, hh.2.symm⟩)
      have HJ := Lib.hid (fun w0 => (joinhi_any v b i w0 hjb.1 (by omega) hbt.1 hbt.2).mono (R' := fun e w' => e = .returned (.int .i64 (2 * v + b)) ∧ w' = w0) fun e w' hh => ⟨hh.1, hh.2.symm⟩)
      rw [hv]
      clear ho hen HP hb hv hbt hjb hnw hby hj2 h32
      go_wp2_with ((go_at_call 84; (with_reducible refine (HU.out).mono ?_); rintro e w1 ⟨rfl, hP1, hC1⟩); have ho1 := Lib.hid (hC1.obj HO.out (HNK.out _)); have k1 := (ho1.out.cell 1).trans rfl; have k2 := (ho1.out.cell 2).trans rfl; have f1 := ho1.out.frozen 1; have f2 := ho1.out.frozen 2)
      have ho2 := (ho1.out.set 1 (.int .i64 nw)).set 2 (.int .i64 8)
      have hp2 := (hP1.put (K := K) (i := 1) (.int .i64 nw) hKX hKL).put (K := K) (i := 2) (.int .i64 8) hKX hKL
      have hc2 := ((HC.out.trans (hC1.mono fun k _ => three_two k)).set ⟨K, 1, none⟩ (.int .i64 nw) (Or.inl (Or.inl rfl))).set ⟨K, 2, none⟩ (.int .i64 8) (Or.inl (Or.inl rfl))
      obtain ⟨w2, hw2⟩ : ∃ w2, (w1.setCell ⟨K, 1, none⟩ (.int .i64 nw)).setCell ⟨K, 2, none⟩ (.int .i64 8) = w2 := ⟨_, rfl⟩
      rw [hw2] at ho2 hp2 hc2 ⊢
      have HO2 : Hid (Obj1 w2 K (btCells X nw (8 : Nat) false) 153) := ho2
      have HC2 := Lib.hid hc2
      have m1 : w2.cell? ⟨K, 1, none⟩ = some (.int .i64 nw) := (HO2.out.cell 1).trans rfl
      have m2 : w2.cell? ⟨K, 2, none⟩ = some (.int .i64 8) := (HO2.out.cell 2).trans rfl
      have m3 : w2.cell? ⟨K, 3, none⟩ = some (.func (.func 88) #[] #[]) := (HO2.out.cell 3).trans rfl
      have m4 : w2.cell? ⟨K, 4, none⟩ = some (.func (.func 89) #[] #[]) := (HO2.out.cell 4).trans rfl
      have g2 := HO2.out.frozen 2
      have FIN := Lib.hid (fun k => (show BitsAt ((w2.drewN k).setCell ⟨K, 2, none⟩ (.int .i64 7)) K X L s false (t + (i + 1)) (l.adv (((t + (i + 1) + 7) / 8 - (t + 7) / 8 : Nat) : Int)) from by
        refine BitsAt.more (now := nw) (z := 7) ((HO2.out.drewN k).set 2 _) (by omega) (fun _ => by rw [← HN.out]; congr 1; omega) ((hp2.drewN k).put _ hKX hKL) (by omega) hKX hKL HB.out.br ?_ ?_
        · have := HEN.out; show ((l.st + _) + 1 : Int) + _ ≤ _; simp only [Led.adv] at this ⊢; omega
        · simp only [Led.adv]; congr 1; omega))
      clear hw2 ho2 hp2 hc2 hP1 hC1 k1 k2 f1 f2
      go_quiet ((first | (go_at_call 88; exact Calls.quiet_of_same (HH.out _)) | (go_at_call 89; exact Calls.quiet_of_same (HJ.out _))))
      go_wp2
      go_roundw
      case rel => exact ⟨i + 1, by omega, by go_num, by rw [JV.out], by omega, FIN.out _, (HC2.out.drewN _).set _ _ (Or.inl (Or.inl rfl))⟩
      case measure => simp [intOf]; omega
    · obtain ⟨z, hzz⟩ : ∃ z, (8 - (t + i) % 8) % 8 = z := ⟨_, rfl⟩
      have z1 : 1 ≤ z := by omega
      have z2 : z ≤ 7 := by omega
      have HO2 : Hid (Obj1 wr K (btCells X nw z false) 153) := by
        have := HO.out; rw [hzz, HNOW.out hz, hnw] at this; exact this
      have HN := Lib.hid hnw
      have m0 : ((z : Int) == 0) = false := by rw [beq_eq_false_iff_ne]; omega
      have m1 : wr.cell? ⟨K, 1, none⟩ = some (.int .i64 nw) := (HO2.out.cell 1).trans rfl
      have m2 : wr.cell? ⟨K, 2, none⟩ = some (.int .i64 z) := (HO2.out.cell 2).trans rfl
      have m3 : wr.cell? ⟨K, 3, none⟩ = some (.func (.func 88) #[] #[]) := (HO2.out.cell 3).trans rfl
      have m4 : wr.cell? ⟨K, 4, none⟩ = some (.func (.func 89) #[] #[]) := (HO2.out.cell 4).trans rfl
      have g2 := HO2.out.frozen 2
      have BV := Lib.hid (show (nw : Int) / 2 ^ (z - 1) % 2 = bitAt s false (t + i) by rw [← hnw]; unfold bitAt; rw [if_neg (by decide)]; congr 3; omega)
      obtain ⟨b, hb⟩ : ∃ b, bitAt s false (t + i) = b := ⟨_, rfl⟩
      obtain ⟨v, hv⟩ : ∃ v, joinK s false t i = v := ⟨_, rfl⟩
      rw [hb] at BV hbt
      rw [hv] at hjb
      have JV := Lib.hid (show joinK s false t (i + 1) = 2 * v + b by rw [joinK, if_neg (by decide), hb, hv])
      have HH := Lib.hid (fun w0 => (highest_any nw z w0 hnw8 z1 (by omega)).mono (R' := fun e w' => e = .returned (.int .i64 b) ∧ w' = w0) fun e w' hh => by rw [BV.out] at hh; exact ⟨hh.1, hh.2.symm⟩)
      have HJ := Lib.hid (fun w0 => (joinhi_any v b i w0 hjb.1 (by omega) hbt.1 hbt.2).mono (R' := fun e w' => e = .returned (.int .i64 (2 * v + b)) ∧ w' = w0) fun e w' hh => ⟨hh.1, hh.2.symm⟩)
      have HC2 := HC
      have FIN := Lib.hid (fun k => (show BitsAt ((wr.drewN k).setCell ⟨K, 2, none⟩ (.int .i64 ((z : Int) - 1))) K X L s false (t + (i + 1)) (l.adv (((t + (i + 1) + 7) / 8 - (t + 7) / 8 : Nat) : Int)) from by
        have hpr := HB.out.pair
        have e1 : ((z : Int) - 1) = ((z - 1 : Nat) : Int) := by omega
        rw [e1]
        refine BitsAt.more (now := nw) (z := z - 1) ((HO2.out.drewN k).set 2 _) (by omega) (fun _ => by rw [← HN.out]; congr 1; omega) ((hpr.drewN k).put _ hKX hKL) (by omega) hKX hKL HB.out.br HB.out.enough ?_
        congr 1; omega))
      rw [hv]
      clear ho hb hv hbt hjb hnw hby hj2 h32 hzz
      go_wp2
      go_quiet ((first | (go_at_call 88; exact Calls.quiet_of_same (HH.out _)) | (go_at_call 89; exact Calls.quiet_of_same (HJ.out _))))
      go_wp2
      go_roundw
      case rel => exact ⟨i + 1, by omega, by go_num, by rw [JV.out], by omega, FIN.out _, (HC2.out.drewN _).set _ _ (Or.inl (Or.inl rfl))⟩
      case measure => simp [intOf]; omega
set_option maxRecDepth 100000 in
set_option maxHeartbeats 4000000 in
theorem bread_true (K X L : Nat) (s : ByteArray) (t : Nat) (l : Led) (n : Nat) (w : World) (hn : n ≤ 32) (h : BitsAt w K X L s true t l) (ht : t ≤ 8 * s.size) (hs : s.size ≤ 1000000) : Calls Try.prog 58 #[.pointer (some ⟨K, 0, none⟩), .int .i64 n] w (BRead w K X L s true t l n) := by
  have hl0 : 0 ≤ l.st := h.pair.led.ok.s0
  have H := Lib.hid h
  have hKX := h.nx
  have hKL := h.nl
  clear h
  have G1 : decide ((n : Int) < 0) = false := by rw [decide_eq_false_iff_not]; omega
  have G2 : decide ((n : Int) > 32) = false := by rw [decide_eq_false_iff_not]; omega
  go_enter Try.func58, Try.ntmps58
  go_wp2
  go_loopw [6, 7, 8, 9, 17] (fun v q8 q9 q10 c wr => ∃ i : Nat, i ≤ n ∧ c = .int .i64 i ∧ v = .int .i64 (joinK s true t i) ∧ t + i ≤ 8 * s.size ∧ BitsAt wr K X L s true (t + i) (l.adv (((t + i + 7) / 8 - (t + 7) / 8 : Nat) : Int)) ∧ Chg (three K X L) w wr) (fun _ _ _ _ c _ => n - (intOf c).toNat)
  case atStart => exact ⟨0, by omega, rfl, rfl, by omega, by have := H.out; simpa [Led.adv] using this, Chg.refl _ _⟩
  case round =>
    obtain ⟨i, hi, rfl, rfl, hti, hB, hC⟩ := hrel
    have HB := Lib.hid hB
    have HC := Lib.hid hC
    obtain ⟨now, ho, hnow⟩ := hB.obj
    have c0 : wr.cell? ⟨K, 0, none⟩ = some (.pointer (some ⟨X, 0, none⟩)) := (ho.cell 0).trans rfl
    have HO := Lib.hid ho
    have HNOW := Lib.hid hnow
    clear hB hC hnow
    by_cases hlt : i < n
    rotate_left
    · have hge : n ≤ i := by omega
      have E := Lib.hid (show i = n by omega)
      clear ho
      go_wp2
      go_ret2
      have e := E.out
      subst e
      exact Or.inl ⟨hti, rfl, HB.out, HC.out⟩
    by_cases hav : t + i < 8 * s.size
    rotate_left
    · have hp : (t + i + 7) / 8 = s.size := by omega
      have c2 : wr.cell? ⟨K, 2, none⟩ = some (.int .i64 0) := (ho.cell 2).trans (by unfold btCells; rw [show (8 - (t + i) % 8) % 8 = 0 by omega]; rfl)
      have HP := HB.out.pair
      rw [hp] at HP
      have HU := Lib.hid (u8_end X L s _ wr HP)
      clear HP hp ho
      go_wp2_with (go_at_call 84; (with_reducible refine (HU.out).mono ?_); rintro e w1 ⟨rfl, hP1, hC1⟩)
      go_ret2
      exact Or.inr ⟨by omega, rfl, ⟨_, hP1⟩, HC.out.trans (hC1.mono fun k _ => three_two k)⟩
    have hby := byN_bd s ((t + i) / 8)
    obtain ⟨nw, hnw⟩ : ∃ nw : Nat, byN s ((t + i) / 8) = nw := ⟨_, (Int.toNat_of_nonneg hby.1).symm⟩
    have hnw8 : nw < 256 := by omega
    have hbt := bitAt_bd s true (t + i)
    have hjb := joinK_bd s true t i
    have hj2 := pow_le' (show i ≤ 32 by omega)
    have h32 : (2 : Int) ^ 32 = 4294967296 := by decide
    have HNK := Lib.hid (fun p => not_two (s := s) (b := 0) (e := s.size) (p := p) hKX hKL)
    by_cases hz : (t + i) % 8 = 0
    · have c2 : wr.cell? ⟨K, 2, none⟩ = some (.int .i64 0) := (ho.cell 2).trans (by unfold btCells; rw [show (8 - (t + i) % 8) % 8 = 0 by omega]; rfl)
      have hp : (t + i + 7) / 8 = (t + i) / 8 := by omega
      have HP := HB.out.pair
      rw [hp] at HP
      have hen := HB.out.enough
      rw [hp] at hen
      have HEN := Lib.hid hen
      have HU := Lib.hid (u8_at X L s _ _ wr HP (by omega) HB.out.br (by omega))
      have HN := Lib.hid hnw
      rw [hnw] at HU
      have BV := Lib.hid (show (nw : Int) / 2 ^ (8 - 8) % 2 = bitAt s true (t + i) by rw [← hnw]; unfold bitAt; rw [hz]; rfl)
      obtain ⟨b, hb⟩ : ∃ b, bitAt s true (t + i) = b := ⟨_, rfl⟩
      obtain ⟨v, hv⟩ : ∃ v, joinK s true t i = v := ⟨_, rfl⟩
      rw [hb] at BV hbt
      rw [hv] at hjb
      have JV := Lib.hid (show joinK s true t (i + 1) = v + b * 2 ^ i by rw [joinK, if_pos rfl, hb, hv])
      have HH := Lib.hid (fun w0 => (lowest_any nw 8 w0 hnw8 (by decide) (by decide)).mono (R' := fun e w' => e = .returned (.int .i64 b) ∧ w' = w0) fun e w' hh => by rw [BV.out] at hh; exact ⟨hh.1, hh.2.symm⟩)
      have HJ := Lib.hid (fun w0 => (joinlo_any v b i w0 hjb.1 hjb.2 hbt.1 hbt.2 (by omega)).mono (R' := fun e w' => e = .returned (.int .i64 (v + b * 2 ^ i)) ∧ w' = w0) fun e w' hh => ⟨hh.1, hh.2.symm⟩)
      rw [hv]
      clear ho hen HP hb hv hbt hjb hnw hby hj2 h32
      go_wp2_with ((go_at_call 84; (with_reducible refine (HU.out).mono ?_); rintro e w1 ⟨rfl, hP1, hC1⟩); have ho1 := Lib.hid (hC1.obj HO.out (HNK.out _)); have k1 := (ho1.out.cell 1).trans rfl; have k2 := (ho1.out.cell 2).trans rfl; have f1 := ho1.out.frozen 1; have f2 := ho1.out.frozen 2)
      have ho2 := (ho1.out.set 1 (.int .i64 nw)).set 2 (.int .i64 8)
      have hp2 := (hP1.put (K := K) (i := 1) (.int .i64 nw) hKX hKL).put (K := K) (i := 2) (.int .i64 8) hKX hKL
      have hc2 := ((HC.out.trans (hC1.mono fun k _ => three_two k)).set ⟨K, 1, none⟩ (.int .i64 nw) (Or.inl (Or.inl rfl))).set ⟨K, 2, none⟩ (.int .i64 8) (Or.inl (Or.inl rfl))
      obtain ⟨w2, hw2⟩ : ∃ w2, (w1.setCell ⟨K, 1, none⟩ (.int .i64 nw)).setCell ⟨K, 2, none⟩ (.int .i64 8) = w2 := ⟨_, rfl⟩
      rw [hw2] at ho2 hp2 hc2 ⊢
      have HO2 : Hid (Obj1 w2 K (btCells X nw (8 : Nat) true) 153) := ho2
      have HC2 := Lib.hid hc2
      have m1 : w2.cell? ⟨K, 1, none⟩ = some (.int .i64 nw) := (HO2.out.cell 1).trans rfl
      have m2 : w2.cell? ⟨K, 2, none⟩ = some (.int .i64 8) := (HO2.out.cell 2).trans rfl
      have m3 : w2.cell? ⟨K, 3, none⟩ = some (.func (.func 90) #[] #[]) := (HO2.out.cell 3).trans rfl
      have m4 : w2.cell? ⟨K, 4, none⟩ = some (.func (.func 91) #[] #[]) := (HO2.out.cell 4).trans rfl
      have g2 := HO2.out.frozen 2
      have FIN := Lib.hid (fun k => (show BitsAt ((w2.drewN k).setCell ⟨K, 2, none⟩ (.int .i64 7)) K X L s true (t + (i + 1)) (l.adv (((t + (i + 1) + 7) / 8 - (t + 7) / 8 : Nat) : Int)) from by
        refine BitsAt.more (now := nw) (z := 7) ((HO2.out.drewN k).set 2 _) (by omega) (fun _ => by rw [← HN.out]; congr 1; omega) ((hp2.drewN k).put _ hKX hKL) (by omega) hKX hKL HB.out.br ?_ ?_
        · have := HEN.out; show ((l.st + _) + 1 : Int) + _ ≤ _; simp only [Led.adv] at this ⊢; omega
        · simp only [Led.adv]; congr 1; omega))
      clear hw2 ho2 hp2 hc2 hP1 hC1 k1 k2 f1 f2
      go_quiet ((first | (go_at_call 90; exact Calls.quiet_of_same (HH.out _)) | (go_at_call 91; exact Calls.quiet_of_same (HJ.out _))))
      go_wp2
      go_roundw
      case rel => exact ⟨i + 1, by omega, by go_num, by rw [JV.out], by omega, FIN.out _, (HC2.out.drewN _).set _ _ (Or.inl (Or.inl rfl))⟩
      case measure => simp [intOf]; omega
    · obtain ⟨z, hzz⟩ : ∃ z, (8 - (t + i) % 8) % 8 = z := ⟨_, rfl⟩
      have z1 : 1 ≤ z := by omega
      have z2 : z ≤ 7 := by omega
      have HO2 : Hid (Obj1 wr K (btCells X nw z true) 153) := by
        have := HO.out; rw [hzz, HNOW.out hz, hnw] at this; exact this
      have HN := Lib.hid hnw
      have m0 : ((z : Int) == 0) = false := by rw [beq_eq_false_iff_ne]; omega
      have m1 : wr.cell? ⟨K, 1, none⟩ = some (.int .i64 nw) := (HO2.out.cell 1).trans rfl
      have m2 : wr.cell? ⟨K, 2, none⟩ = some (.int .i64 z) := (HO2.out.cell 2).trans rfl
      have m3 : wr.cell? ⟨K, 3, none⟩ = some (.func (.func 90) #[] #[]) := (HO2.out.cell 3).trans rfl
      have m4 : wr.cell? ⟨K, 4, none⟩ = some (.func (.func 91) #[] #[]) := (HO2.out.cell 4).trans rfl
      have g2 := HO2.out.frozen 2
      have BV := Lib.hid (show (nw : Int) / 2 ^ (8 - z) % 2 = bitAt s true (t + i) by rw [← hnw]; unfold bitAt; rw [if_pos rfl]; congr 3; omega)
      obtain ⟨b, hb⟩ : ∃ b, bitAt s true (t + i) = b := ⟨_, rfl⟩
      obtain ⟨v, hv⟩ : ∃ v, joinK s true t i = v := ⟨_, rfl⟩
      rw [hb] at BV hbt
      rw [hv] at hjb
      have JV := Lib.hid (show joinK s true t (i + 1) = v + b * 2 ^ i by rw [joinK, if_pos rfl, hb, hv])
      have HH := Lib.hid (fun w0 => (lowest_any nw z w0 hnw8 z1 (by omega)).mono (R' := fun e w' => e = .returned (.int .i64 b) ∧ w' = w0) fun e w' hh => by rw [BV.out] at hh; exact ⟨hh.1, hh.2.symm⟩)
      have HJ := Lib.hid (fun w0 => (joinlo_any v b i w0 hjb.1 hjb.2 hbt.1 hbt.2 (by omega)).mono (R' := fun e w' => e = .returned (.int .i64 (v + b * 2 ^ i)) ∧ w' = w0) fun e w' hh => ⟨hh.1, hh.2.symm⟩)
      have HC2 := HC
      have FIN := Lib.hid (fun k => (show BitsAt ((wr.drewN k).setCell ⟨K, 2, none⟩ (.int .i64 ((z : Int) - 1))) K X L s true (t + (i + 1)) (l.adv (((t + (i + 1) + 7) / 8 - (t + 7) / 8 : Nat) : Int)) from by
        have hpr := HB.out.pair
        have e1 : ((z : Int) - 1) = ((z - 1 : Nat) : Int) := by omega
        rw [e1]
        refine BitsAt.more (now := nw) (z := z - 1) ((HO2.out.drewN k).set 2 _) (by omega) (fun _ => by rw [← HN.out]; congr 1; omega) ((hpr.drewN k).put _ hKX hKL) (by omega) hKX hKL HB.out.br HB.out.enough ?_
        congr 1; omega))
      rw [hv]
      clear ho hb hv hbt hjb hnw hby hj2 h32 hzz
      go_wp2
      go_quiet ((first | (go_at_call 90; exact Calls.quiet_of_same (HH.out _)) | (go_at_call 91; exact Calls.quiet_of_same (HJ.out _))))
      go_wp2
      go_roundw
      case rel => exact ⟨i + 1, by omega, by go_num, by rw [JV.out], by omega, FIN.out _, (HC2.out.drewN _).set _ _ (Or.inl (Or.inl rfl))⟩
      case measure => simp [intOf]; omega
end Go.Proofs.Ytobpocdpnkicnaa

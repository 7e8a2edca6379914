/- The law DibrleSteps, walked. -/
import Derived.Test.YtlfbaggcfaenlaaGreatK41
import Derived.Test.YtlfbaggcfaenlaaGreatK30
import Derived.Test.YtlfbaggcfaenlaaGreatK32
import Derived.Test.YtlfbaggcfaenlaaGreatK17
import Derived.Test.YtlfbaggcfaenlaaGreatK28
import Derived.Test.YtlfbaggcfaenlaaGreatK43
import Derived.Test.YtlfbaggcfaenlaaGreatK44
import Derived.Test.YtlfbaggcfaenlaaGreatK0
namespace Go.Proofs.YtlfbaggcfaenlaaGreat
open Go.RowKit
set_option linter.unusedVariables false
set_option linter.unusedSimpArgs false
def RasGood (w : World) (L : Nat) (l : Led) (a b : Nat) (e : Ending) (w' : World) : Prop := ∃ R B g, e = .returned (.tuple #[.pointer (some ⟨R, 0, none⟩), .int .i64 0]) ∧ LedAt w' L (l.take ((a * b * 4 : Nat) : Int)).1 ∧ RasAt w' R ⟨L, a, b, B, true, ⟨L, g, zeros8 (a * b * 4), true⟩⟩ ∧ w.heap.size ≤ R ∧ w.heap.size ≤ B ∧ w.heap.size ≤ g ∧ Chg (· = L) w w'
theorem ras_rich (L : Nat) (l : Led) (a b : Nat) (w : World) (h : LedAt w L l) (hb : l.br = false) (ha1 : 1 ≤ a) (ha2 : (a : Int) ≤ l.mw) (hb1 : 1 ≤ b) (hb2 : (b : Int) ≤ l.mh) (hm : l.mw ≤ 16384 ∧ l.mh ≤ 16384) (hmb : l.bt + 4 * (a * b : Nat) ≤ l.mb) :
    Calls Tryz.prog 20 #[.pointer (some ⟨L, 0, none⟩), .int .i64 a, .int .i64 b] w (RasGood w L l a b) := by
  refine (rasnew_any L l a b w h).mono ?_
  intro e w' hp
  unfold RNewPost at hp
  have hs : l.sides a b = (l, true) := by
    unfold Led.sides; rw [if_neg (by rw [hb]; decide), if_neg (by omega), if_neg (by omega)]
  obtain ⟨hp, hc⟩ := hp
  rw [if_neg (fun hh => hh ⟨⟨by omega, by omega⟩, by omega, by omega⟩), hs, if_neg (by intro hh; cases hh), Int.toNat_natCast, Int.toNat_natCast] at hp
  have htk : (l.take ((a * b * 4 : Nat) : Int)).2 = true := by
    unfold Led.take; rw [if_neg (by rw [hb]; decide), if_neg (by omega)]
  rw [if_neg (by rw [htk]; decide)] at hp
  obtain ⟨R, B, g, h1, h2, h3, h4, h5, h6⟩ := hp
  exact ⟨R, B, g, h1, h2, h3, h4, h5, h6, hc⟩
set_option maxRecDepth 100000 in
set_option maxHeartbeats 8000000 in
theorem reads22_long (s : ByteArray) (f : Int) (w : World) (h : 1500 < s.size) (hs : s.size ≤ 9223372036854775807) : Calls Tryz.prog 4 #[.string s, .int .i64 f] w (Yes22 w) := by
  have HR := Hi (fun w0 => (show Calls Tryz.prog 23 #[.string s, .int .i64 0, .int .i64 s.size] w0 (RA w0 (rRead20 s 0)) from rread20_any s 0 w0 (Nat.zero_le _) (by decide) hs))
  obtain ⟨R, hR⟩ : ∃ R, rRead20 s 0 = R := ⟨_, rfl⟩
  have hn := rRead20_len4 s 0
  rw [hR] at HR hn
  obtain ⟨hn, ho⟩ := hn
  clear hR
  go_enter Tryz.func4, Tryz.ntmps4
  go_wp2_with fail
  with_reducible refine (HR.out _).mono ?_
  rintro e w1 ⟨rfl, hb⟩
  have BL := Hi hb
  have l4 := hb.size
  clear hb
  obtain ⟨d4, hd4⟩ : ∃ d, w1.heap.size = d := ⟨_, rfl⟩
  have O4 := Hi (obj1_new w1 #[.int .i64 0, .int .i64 0, .int .i64 0, .bool false, .int .i64 0, .int .i64 0, .int .i64 0, .int .i64 0, .int .i64 0, .int .i64 0, .int .i64 0, .int .i64 0, .int .i64 0, .int .i64 0, .int .i64 0] 52)
  have BL := Hi (BL.out.alloc BL.out.size (.cells #[.int .i64 0, .int .i64 0, .int .i64 0, .bool false, .int .i64 0, .int .i64 0, .int .i64 0, .int .i64 0, .int .i64 0, .int .i64 0, .int .i64 0, .int .i64 0, .int .i64 0, .int .i64 0, .int .i64 0] 52))
  rw [hd4] at O4 l4
  go_upto_region 2 with (first
    | (refine store_o rfl 52 15 _ _ rfl d4 (R) hn ho (by kernel_rfl) (by kernel_rfl) (by kernel_rfl) O4.out (by first | rfl | simp) ?_; intro ws hst hO; have O4 := Hi hO; have BL := Hi (hst.below BL.out (by omega)); clear hst hO))
  clear hd4
  go_wp2_with fail
  with_reducible refine (awake22 _).mono ?_
  rintro e w10 ⟨rfl, hb⟩
  have BL := Hi (bthen hb BL.out BL.out.size)
  clear hb
  go_wp2_with fail
  go_ret
  exact ⟨rfl, BL.out⟩
set_option maxRecDepth 100000 in
set_option maxHeartbeats 8000000 in
theorem reads22_exit (s : ByteArray) (f : Int) (w : World) (hs : s.size ≤ 1500) (sz W Hh : Int) (top : Bool) (dp mt co r g b q fr en k a : Int) (hr : rRead20 s 0 = [.int .i64 sz, .int .i64 W, .int .i64 Hh, .bool top, .int .i64 dp, .int .i64 mt, .int .i64 co, .int .i64 r, .int .i64 g, .int .i64 b, .int .i64 q, .int .i64 fr, .int .i64 en, .int .i64 k, .int .i64 a])
    (hc : k ≠ 0 ∨ (k = 0 ∧ mt ≠ 1 ∧ mt ≠ 2) ∨ (k = 0 ∧ (mt = 1 ∨ mt = 2) ∧ 40 < W) ∨ (k = 0 ∧ (mt = 1 ∨ mt = 2) ∧ W ≤ 40 ∧ 40 < Hh)) : Calls Tryz.prog 4 #[.string s, .int .i64 f] w (Yes22 w) := by
  have HR := Hi (fun w0 => (show Calls Tryz.prog 23 #[.string s, .int .i64 0, .int .i64 s.size] w0 (RA w0 (rRead20 s 0)) from rread20_any s 0 w0 (Nat.zero_le _) (by decide) (by omega)))
  rw [hr] at HR
  clear hr
  go_enter Tryz.func4, Tryz.ntmps4
  go_wp2_with fail
  with_reducible refine (HR.out _).mono ?_
  rintro e w1 ⟨rfl, hb⟩
  have BL := Hi hb
  have l4 := hb.size
  clear hb
  obtain ⟨d4, hd4⟩ : ∃ d, w1.heap.size = d := ⟨_, rfl⟩
  have O4 := Hi (obj1_new w1 #[.int .i64 0, .int .i64 0, .int .i64 0, .bool false, .int .i64 0, .int .i64 0, .int .i64 0, .int .i64 0, .int .i64 0, .int .i64 0, .int .i64 0, .int .i64 0, .int .i64 0, .int .i64 0, .int .i64 0] 52)
  have BL := Hi (BL.out.alloc BL.out.size (.cells #[.int .i64 0, .int .i64 0, .int .i64 0, .bool false, .int .i64 0, .int .i64 0, .int .i64 0, .int .i64 0, .int .i64 0, .int .i64 0, .int .i64 0, .int .i64 0, .int .i64 0, .int .i64 0, .int .i64 0] 52))
  rw [hd4] at O4 l4
  go_upto_region 2 with (first
    | (refine store_o rfl 52 15 _ _ rfl d4 ([.int .i64 sz, .int .i64 W, .int .i64 Hh, .bool top, .int .i64 dp, .int .i64 mt, .int .i64 co, .int .i64 r, .int .i64 g, .int .i64 b, .int .i64 q, .int .i64 fr, .int .i64 en, .int .i64 k, .int .i64 a]) rfl rfl (by kernel_rfl) (by kernel_rfl) (by kernel_rfl) O4.out (by first | rfl | simp) ?_; intro ws hst hO; have O4 := Hi hO; have BL := Hi (hst.below BL.out (by omega)); clear hst hO))
  clear hd4
  have q13 := (O4.out.cell 13).trans (show _ = some (.int .i64 k) from rfl)
  have q5 := (O4.out.cell 5).trans (show _ = some (.int .i64 mt) from rfl)
  have q1 := (O4.out.cell 1).trans (show _ = some (.int .i64 W) from rfl)
  have q2 := (O4.out.cell 2).trans (show _ = some (.int .i64 Hh) from rfl)
  rcases hc with h | ⟨rfl, h1, h2⟩ | ⟨rfl, h1 | h1, h2⟩ | ⟨rfl, h1 | h1, h2, h3⟩
  · skip
    go_wp2_with fail
    with_reducible refine (awake22 _).mono ?_
    rintro e w10 ⟨rfl, hb⟩
    have BL := Hi (bthen hb BL.out BL.out.size)
    clear hb
    go_wp2_with fail
    go_ret
    exact ⟨rfl, BL.out⟩
  · skip
    go_wp2_with fail
    with_reducible refine (awake22 _).mono ?_
    rintro e w10 ⟨rfl, hb⟩
    have BL := Hi (bthen hb BL.out BL.out.size)
    clear hb
    go_wp2_with fail
    go_ret
    exact ⟨rfl, BL.out⟩
  · subst h1
    go_wp2_with fail
    with_reducible refine (awake22 _).mono ?_
    rintro e w10 ⟨rfl, hb⟩
    have BL := Hi (bthen hb BL.out BL.out.size)
    clear hb
    go_wp2_with fail
    go_ret
    exact ⟨rfl, BL.out⟩
  · subst h1
    go_wp2_with fail
    with_reducible refine (awake22 _).mono ?_
    rintro e w10 ⟨rfl, hb⟩
    have BL := Hi (bthen hb BL.out BL.out.size)
    clear hb
    go_wp2_with fail
    go_ret
    exact ⟨rfl, BL.out⟩
  · subst h1
    go_wp2_with fail
    with_reducible refine (awake22 _).mono ?_
    rintro e w10 ⟨rfl, hb⟩
    have BL := Hi (bthen hb BL.out BL.out.size)
    clear hb
    go_wp2_with fail
    go_ret
    exact ⟨rfl, BL.out⟩
  · subst h1
    go_wp2_with fail
    with_reducible refine (awake22 _).mono ?_
    rintro e w10 ⟨rfl, hb⟩
    have BL := Hi (bthen hb BL.out BL.out.size)
    clear hb
    go_wp2_with fail
    go_ret
    exact ⟨rfl, BL.out⟩
end Go.Proofs.YtlfbaggcfaenlaaGreat

/- Layer 20: a source over a text; the chapter's example; DibheadKnown, walked. -/
import Derived.Test.YtlhcjnjajkfahaaK19
import Derived.Test.YtlhcjnjajkfahaaK20
import Derived.Test.YtlhcjnjajkfahaaK9
namespace Go.Proofs.Ytlhcjnjajkfahaa
open Go.RowKit
set_option linter.unusedVariables false
set_option linter.unusedSimpArgs false
def Yes20 (w : World) (e : Ending) (w' : World) : Prop := e = .returned (.bool true) ∧ Below w.heap.size w w'
theorem hread_any (X : Nat) (x : Sr) (l : Led) (f : Int) (w : World) (h : Pair w X x l) : Calls Try.prog 33 #[.pointer (some ⟨X, 0, none⟩), .int .i64 f] w (HReadPost w X x (hRead x l f)) := by
  cases hg : tkOk x l with
  | false => exact hread_bad X x l f w h hg
  | true => exact hread_good X x l f w h hg
def FreshPost (w : World) (s : ByteArray) (e : Ending) (w' : World) : Prop := ∃ X L, e = .returned (.pointer (some ⟨X, 0, none⟩)) ∧ Pair w' X ⟨L, s, 0, s.size, 0⟩ (Led.new 0 0 0 1000) ∧ w.heap.size ≤ X ∧ w.heap.size ≤ L ∧ Below w.heap.size w w'
set_option maxRecDepth 100000 in
theorem fresh20_any (s : ByteArray) (w : World) (hs : s.size ≤ 9223372036854775807) : Calls Try.prog 31 #[.string s] w (FreshPost w s) := by
  have HN := Lib.hid (fun w0 => lnew_k 1000 w0 (by simp))
  have HS := Lib.hid (fun L l w0 hL => snew_c7 L s l w0 hs hL)
  go_enter Try.func31, Try.ntmps31
  go_wp2_with fail
  refine (HN.out _).mono ?_
  rintro e w1 ⟨L, rfl, hL1, hs1, hC1⟩
  have hz1 := hC1.size
  have HB := Lib.hid (chg_none hC1)
  clear hC1
  go_wp2_with fail
  refine (HS.out L _ _ hL1).mono ?_
  rintro e w2 ⟨X, rfl, hP2, hs2, hB2⟩
  have HB := Lib.hid (HB.out.trans (hB2.mono hz1))
  clear hB2 hL1
  have HP := Lib.hid hP2
  clear hP2
  go_wp2_with fail
  go_ret
  exact ⟨X, L, rfl, HP.out, by omega, hs1, HB.out⟩
def z40 : ByteArray := strOf [40, 0, 0, 0, 1, 0, 0, 0, 255, 255, 255, 255, 1, 0, 24, 0, 0, 0, 0, 0, 0, 0, 0, 0, 0, 0, 0, 0, 0, 0, 0, 0, 0, 0, 0, 0, 0, 0, 0, 0]
theorem z40_size : z40.size = 40 := rfl
theorem mk40 (w : World) : (Instr.makeSlice 72 (.int .i64 40) (.int .i64 40)).run Try.prog w = .ok (.slice (some ⟨w.heap.size, 0, none⟩) 40 40) (w.alloc (.cells #[.int .u8 0, .int .u8 0, .int .u8 0, .int .u8 0, .int .u8 0, .int .u8 0, .int .u8 0, .int .u8 0, .int .u8 0, .int .u8 0, .int .u8 0, .int .u8 0, .int .u8 0, .int .u8 0, .int .u8 0, .int .u8 0, .int .u8 0, .int .u8 0, .int .u8 0, .int .u8 0, .int .u8 0, .int .u8 0, .int .u8 0, .int .u8 0, .int .u8 0, .int .u8 0, .int .u8 0, .int .u8 0, .int .u8 0, .int .u8 0, .int .u8 0, .int .u8 0, .int .u8 0, .int .u8 0, .int .u8 0, .int .u8 0, .int .u8 0, .int .u8 0, .int .u8 0, .int .u8 0] 5)) := by kernel_rfl
theorem conv40 (w : World) (B : Nat) {T : TypeId} (h : Obj1 w B #[.int .u8 40, .int .u8 0, .int .u8 0, .int .u8 0, .int .u8 1, .int .u8 0, .int .u8 0, .int .u8 0, .int .u8 255, .int .u8 255, .int .u8 255, .int .u8 255, .int .u8 1, .int .u8 0, .int .u8 24, .int .u8 0, .int .u8 0, .int .u8 0, .int .u8 0, .int .u8 0, .int .u8 0, .int .u8 0, .int .u8 0, .int .u8 0, .int .u8 0, .int .u8 0, .int .u8 0, .int .u8 0, .int .u8 0, .int .u8 0, .int .u8 0, .int .u8 0, .int .u8 0, .int .u8 0, .int .u8 0, .int .u8 0, .int .u8 0, .int .u8 0, .int .u8 0, .int .u8 0] T) : (convert 72 9 (.slice (some ⟨B, 0, none⟩) 40 40)).run Try.prog w = .ok (.string z40) w :=
  conv_str w B 40 40 [40, 0, 0, 0, 1, 0, 0, 0, 255, 255, 255, 255, 1, 0, 24, 0, 0, 0, 0, 0, 0, 0, 0, 0, 0, 0, 0, 0, 0, 0, 0, 0, 0, 0, 0, 0, 0, 0, 0, 0] rfl (Obj1.range0 (cs := ([40, 0, 0, 0, 1, 0, 0, 0, 255, 255, 255, 255, 1, 0, 24, 0, 0, 0, 0, 0, 0, 0, 0, 0, 0, 0, 0, 0, 0, 0, 0, 0, 0, 0, 0, 0, 0, 0, 0, 0] : List Int).map (Value.int .u8)) h) _ _ _ Try.underlying72 Try.underlying5 Try.underlying9
theorem read40 (L : Nat) : (hRead ⟨L, z40, 0, 40, 0⟩ (Led.new 0 0 0 1000) 1).1 = ([.int .i64 40, .int .i64 1, .int .i64 1, .bool true, .int .i64 24, .int .i64 0, .int .i64 0, .int .i64 0, .int .i64 0, .int .i64 0, .int .i64 0, .int .i64 0, .int .i64 0, .int .i64 0, .int .i64 0, .int .i64 0], [.int .i64 0, .int .i64 0, .int .i64 0]) := by kernel_rfl
set_option maxRecDepth 100000 in
set_option maxHeartbeats 4000000 in
theorem awake20 (w : World) : Calls Try.prog 30 #[] w (Yes20 w) := by
  have HM := @mk40
  have O1 := Lib.hid (obj1_new w #[.int .u8 40, .int .u8 0, .int .u8 0, .int .u8 0, .int .u8 1, .int .u8 0, .int .u8 0, .int .u8 0, .int .u8 255, .int .u8 255, .int .u8 255, .int .u8 255, .int .u8 1, .int .u8 0, .int .u8 24, .int .u8 0, .int .u8 0, .int .u8 0, .int .u8 0, .int .u8 0, .int .u8 0, .int .u8 0, .int .u8 0, .int .u8 0, .int .u8 0, .int .u8 0, .int .u8 0, .int .u8 0, .int .u8 0, .int .u8 0, .int .u8 0, .int .u8 0, .int .u8 0, .int .u8 0, .int .u8 0, .int .u8 0, .int .u8 0, .int .u8 0, .int .u8 0, .int .u8 0] 5)
  have HB := Lib.hid ((Below.refl w.heap.size w).alloc (Nat.le_refl _) (.cells #[.int .u8 40, .int .u8 0, .int .u8 0, .int .u8 0, .int .u8 1, .int .u8 0, .int .u8 0, .int .u8 0, .int .u8 255, .int .u8 255, .int .u8 255, .int .u8 255, .int .u8 1, .int .u8 0, .int .u8 24, .int .u8 0, .int .u8 0, .int .u8 0, .int .u8 0, .int .u8 0, .int .u8 0, .int .u8 0, .int .u8 0, .int .u8 0, .int .u8 0, .int .u8 0, .int .u8 0, .int .u8 0, .int .u8 0, .int .u8 0, .int .u8 0, .int .u8 0, .int .u8 0, .int .u8 0, .int .u8 0, .int .u8 0, .int .u8 0, .int .u8 0, .int .u8 0, .int .u8 0] 5))
  go_enter Try.func30, Try.ntmps30
  go_upto_region 4 with (fail)
  generalize World.alloc _ _ = w1 at O1 HB ⊢
  have hcv := conv40 w1 w.heap.size O1.out
  go_wp2_with fail
  refine (fresh20_any z40 w1 (by decide)).mono ?_
  rintro e w2 ⟨X, L, rfl, hP, hX, hL, hb⟩
  have hz1 := HB.out.size
  have HB := Lib.hid (bthen hb HB.out hz1)
  have PX := Lib.hid (show Pair w2 X ⟨L, z40, 0, 40, 0⟩ (Led.new 0 0 0 1000) from hP)
  have lX : w.heap.size ≤ X := by omega
  have lL : w.heap.size ≤ L := by omega
  clear hP hb hcv HM O1
  go_wp2_with fail
  refine (hread_any X _ _ 1 _ PX.out).mono ?_
  rintro e w5 ⟨rfl, hP, hC⟩
  rw [read40 L]
  have HB := Lib.hid (chg_two HB.out hC lX lL)
  clear hP hC
  have O3 := Lib.hid ((obj1_new w5 (List.toArray [.int .i64 40, .int .i64 1, .int .i64 1, .bool true, .int .i64 24, .int .i64 0, .int .i64 0, .int .i64 0, .int .i64 0, .int .i64 0, .int .i64 0, .int .i64 0, .int .i64 0, .int .i64 0, .int .i64 0, .int .i64 0]) 61).alloc (.cells (List.toArray [.int .i64 0, .int .i64 0, .int .i64 0]) 63))
  have O4 := Lib.hid (obj1_new (w5.alloc (.cells (List.toArray [.int .i64 40, .int .i64 1, .int .i64 1, .bool true, .int .i64 24, .int .i64 0, .int .i64 0, .int .i64 0, .int .i64 0, .int .i64 0, .int .i64 0, .int .i64 0, .int .i64 0, .int .i64 0, .int .i64 0, .int .i64 0]) 61)) (List.toArray [.int .i64 0, .int .i64 0, .int .i64 0]) 63)
  rw [show (w5.alloc (.cells (List.toArray [.int .i64 40, .int .i64 1, .int .i64 1, .bool true, .int .i64 24, .int .i64 0, .int .i64 0, .int .i64 0, .int .i64 0, .int .i64 0, .int .i64 0, .int .i64 0, .int .i64 0, .int .i64 0, .int .i64 0, .int .i64 0]) 61)).heap.size = w5.heap.size + 1 by simp] at O4
  have HB := Lib.hid ((HB.out.alloc HB.out.size (.cells (List.toArray [.int .i64 40, .int .i64 1, .int .i64 1, .bool true, .int .i64 24, .int .i64 0, .int .i64 0, .int .i64 0, .int .i64 0, .int .i64 0, .int .i64 0, .int .i64 0, .int .i64 0, .int .i64 0, .int .i64 0, .int .i64 0]) 61)).alloc (Nat.le_trans HB.out.size (by simp)) (.cells (List.toArray [.int .i64 0, .int .i64 0, .int .i64 0]) 63))
  go_upto_region 8 with (fail)
  generalize World.alloc _ _ = w6 at O3 O4 HB ⊢
  have c1 : w6.cell? ⟨w5.heap.size, 1, none⟩ = some (.int .i64 1) := (O3.out.cell 1).trans rfl
  have c2 : w6.cell? ⟨w5.heap.size, 2, none⟩ = some (.int .i64 1) := (O3.out.cell 2).trans rfl
  have c3 : w6.cell? ⟨w5.heap.size, 3, none⟩ = some (.bool true) := (O3.out.cell 3).trans rfl
  have HST := Lib.hid (fun w0 => (show Calls Try.prog 36 #[.agg (List.toArray [.int .i64 40, .int .i64 1, .int .i64 1, .bool true, .int .i64 24, .int .i64 0, .int .i64 0, .int .i64 0, .int .i64 0, .int .i64 0, .int .i64 0, .int .i64 0, .int .i64 0, .int .i64 0, .int .i64 0, .int .i64 0])] w0 (fun e w' => e = .returned (.int .i64 4) ∧ Below w0.heap.size w0 w') from hstride_any 40 1 1 true 24 0 0 0 0 0 0 0 0 0 0 0 w0 (by decide) (by decide) (by decide)))
  go_wp2_with (first
    | ((with_reducible refine skip_g rfl ?_ ?_); rfl; intro _)
    | (refine load_u (by kernel_rfl) 63 3 _ rfl (w5.heap.size + 1) [.int .i64 0, .int .i64 0, .int .i64 0] rfl rfl O4.out Try.underlying63 rfl (by kernel_rfl) ?_; intro _)
    | (refine load_u (by kernel_rfl) 61 16 _ rfl w5.heap.size [.int .i64 40, .int .i64 1, .int .i64 1, .bool true, .int .i64 24, .int .i64 0, .int .i64 0, .int .i64 0, .int .i64 0, .int .i64 0, .int .i64 0, .int .i64 0, .int .i64 0, .int .i64 0, .int .i64 0, .int .i64 0] rfl rfl O3.out Try.underlying61 rfl (by kernel_rfl) ?_; intro _)
    | ((go_at_call 36; (with_reducible refine (HST.out _).mono ?_); rintro e w7 ⟨rfl, hb⟩); have HB := Lib.hid (bthen hb HB.out HB.out.size); clear hb))
  go_ret
  exact ⟨rfl, HB.out⟩
set_option maxRecDepth 100000 in
theorem hknown_law (n : Int) (hn : (Lit.int .i64 n).wf = true) (w : World) : Calls Try.prog 7 #[.int .i64 n] w (Yes20 w) := by
  clear hn
  have HK := Lib.hid (fun w0 => known_any n w0)
  have HW := Lib.hid (fun w0 => awake20 w0)
  by_cases h12 : n = 12
  · subst h12
    go_enter Try.func7, Try.ntmps7
    go_wp2_with (first
      | ((with_reducible refine skip_g rfl ?_ ?_); rfl; intro _)
      | ((go_at_call 29; (with_reducible refine (HK.out _).mono ?_); rintro e w1 ⟨rfl, rfl⟩))
      | (go_at_call 30; (with_reducible refine (HW.out _).mono ?_); rintro e w1 ⟨rfl, hb⟩))
    go_ret
    exact ⟨rfl, hb⟩
  by_cases h16 : n = 16
  · subst h16
    go_enter Try.func7, Try.ntmps7
    go_wp2_with (first
      | ((with_reducible refine skip_g rfl ?_ ?_); rfl; intro _)
      | ((go_at_call 29; (with_reducible refine (HK.out _).mono ?_); rintro e w1 ⟨rfl, rfl⟩))
      | (go_at_call 30; (with_reducible refine (HW.out _).mono ?_); rintro e w1 ⟨rfl, hb⟩))
    go_ret
    exact ⟨rfl, hb⟩
  by_cases h40 : n = 40
  · subst h40
    go_enter Try.func7, Try.ntmps7
    go_wp2_with (first
      | ((with_reducible refine skip_g rfl ?_ ?_); rfl; intro _)
      | ((go_at_call 29; (with_reducible refine (HK.out _).mono ?_); rintro e w1 ⟨rfl, rfl⟩))
      | (go_at_call 30; (with_reducible refine (HW.out _).mono ?_); rintro e w1 ⟨rfl, hb⟩))
    go_ret
    exact ⟨rfl, hb⟩
  by_cases h52 : n = 52
  · subst h52
    go_enter Try.func7, Try.ntmps7
    go_wp2_with (first
      | ((with_reducible refine skip_g rfl ?_ ?_); rfl; intro _)
      | ((go_at_call 29; (with_reducible refine (HK.out _).mono ?_); rintro e w1 ⟨rfl, rfl⟩))
      | (go_at_call 30; (with_reducible refine (HW.out _).mono ?_); rintro e w1 ⟨rfl, hb⟩))
    go_ret
    exact ⟨rfl, hb⟩
  by_cases h56 : n = 56
  · subst h56
    go_enter Try.func7, Try.ntmps7
    go_wp2_with (first
      | ((with_reducible refine skip_g rfl ?_ ?_); rfl; intro _)
      | ((go_at_call 29; (with_reducible refine (HK.out _).mono ?_); rintro e w1 ⟨rfl, rfl⟩))
      | (go_at_call 30; (with_reducible refine (HW.out _).mono ?_); rintro e w1 ⟨rfl, hb⟩))
    go_ret
    exact ⟨rfl, hb⟩
  by_cases h64 : n = 64
  · subst h64
    go_enter Try.func7, Try.ntmps7
    go_wp2_with (first
      | ((with_reducible refine skip_g rfl ?_ ?_); rfl; intro _)
      | ((go_at_call 29; (with_reducible refine (HK.out _).mono ?_); rintro e w1 ⟨rfl, rfl⟩))
      | (go_at_call 30; (with_reducible refine (HW.out _).mono ?_); rintro e w1 ⟨rfl, hb⟩))
    go_ret
    exact ⟨rfl, hb⟩
  by_cases h108 : n = 108
  · subst h108
    go_enter Try.func7, Try.ntmps7
    go_wp2_with (first
      | ((with_reducible refine skip_g rfl ?_ ?_); rfl; intro _)
      | ((go_at_call 29; (with_reducible refine (HK.out _).mono ?_); rintro e w1 ⟨rfl, rfl⟩))
      | (go_at_call 30; (with_reducible refine (HW.out _).mono ?_); rintro e w1 ⟨rfl, hb⟩))
    go_ret
    exact ⟨rfl, hb⟩
  by_cases h124 : n = 124
  · subst h124
    go_enter Try.func7, Try.ntmps7
    go_wp2_with (first
      | ((with_reducible refine skip_g rfl ?_ ?_); rfl; intro _)
      | ((go_at_call 29; (with_reducible refine (HK.out _).mono ?_); rintro e w1 ⟨rfl, rfl⟩))
      | (go_at_call 30; (with_reducible refine (HW.out _).mono ?_); rintro e w1 ⟨rfl, hb⟩))
    go_ret
    exact ⟨rfl, hb⟩
  have e12 := eqf h12
  have e16 := eqf h16
  have e40 := eqf h40
  have e52 := eqf h52
  have e56 := eqf h56
  have e64 := eqf h64
  have e108 := eqf h108
  have e124 := eqf h124
  have E : knownH n = false := by unfold knownH headsB; rw [e12, e16, e40, e52, e56, e64, e108, e124]; rfl
  rw [E] at HK
  clear E h12 h16 h40 h52 h56 h64 h108 h124
  go_enter Try.func7, Try.ntmps7
  go_wp2_with (first
    | ((with_reducible refine skip_g rfl ?_ ?_); rfl; intro _)
    | ((go_at_call 29; (with_reducible refine (HK.out _).mono ?_); rintro e w1 ⟨rfl, rfl⟩))
    | (go_at_call 30; (with_reducible refine (HW.out _).mono ?_); rintro e w1 ⟨rfl, hb⟩))
  go_ret
  exact ⟨rfl, hb⟩
end Go.Proofs.Ytlhcjnjajkfahaa

/- dibhead.Bytes: the closure that puts four bytes; again: walked. -/
import Derived.Test.YtlhcjnjajkfahaaK21
import Derived.Test.YtlhcjnjajkfahaaK27
import Derived.Test.YtlhcjnjajkfahaaK9
namespace Go.Proofs.Ytlhcjnjajkfahaa
open Go.RowKit
set_option linter.unusedVariables false
set_option linter.unusedSimpArgs false
/-- Four bytes of a number, put at a place. -/
def setB (L : List Int) (at' : Nat) (v : Int) : Nat → List Int
  | 0 => L
  | k + 1 => (setB L at' v k).set (at' + k) (byteAt v k)
theorem setB_len (L : List Int) (p : Nat) (v : Int) (k : Nat) : (setB L p v k).length = L.length := by
  induction k with
  | zero => rfl
  | succ k ih => rw [setB, List.length_set, ih]
theorem map_set {α β : Type} (f : α → β) (L : List α) (i : Nat) (x : α) : (L.map f).set i (f x) = (L.set i x).map f := by simp
theorem Obj1.setL {w : World} {g : Nat} {L : List Int} {T : TypeId} (h : Obj1 w g (L.map (.int .u8)).toArray T) (i : Nat) (x : Int) : Obj1 (w.setCell ⟨g, i, none⟩ (.int .u8 x)) g ((L.set i x).map (.int .u8)).toArray T := by
  have h1 := h.set i (.int .u8 x)
  rw [List.setIfInBounds_toArray, map_set] at h1
  exact h1
set_option maxRecDepth 100000 in
theorem bput_any (v : Int) (p n OB g : Nat) (L : List Int) (w : World) (hL : L.length = n) (hp : p + 4 ≤ n) (hn : n ≤ 100) (hne : OB ≠ g) (h1 : Obj1 w OB #[.slice (some ⟨g, 0, none⟩) n n] 72) (h2 : Obj1 w g ((L.map (.int .u8)).toArray) 5) :
    Calls Try.prog 80 #[.int .i64 p, .int .i64 v, .pointer (some ⟨OB, 0, none⟩)] w fun e w' => e = .returned (.tuple #[]) ∧ Obj1 w' g (((setB L p v 4).map (.int .u8)).toArray) 5 ∧ Chg (fun k => k = g) w w' := by
  go_enter Try.func80, Try.ntmps80
  go_upto_region 1 with (fail)
  go_loopw [5, 6] (fun q5 c wr => ∃ j : Nat, j ≤ 4 ∧ c = .int .i64 j ∧ Obj1 wr g (((setB L p v j).map (.int .u8)).toArray) 5 ∧ Chg (fun k => k = g) w wr) (fun _ c _ => 4 - (intOf c).toNat)
  case atStart => exact ⟨0, by omega, rfl, h2, Chg.refl _ _⟩
  case round =>
    obtain ⟨j, hj, rfl, hO, hC⟩ := hrel
    have OG := Lib.hid hO
    have CH := Lib.hid hC
    have OB1 := Lib.hid (hC.obj h1 hne)
    clear hO hC
    by_cases hlt : j < 4
    rotate_left
    · have hge : 4 ≤ j := by omega
      have E := Lib.hid (show j = 4 by omega)
      go_wp2
      go_end0
      exact ⟨rfl, E.out ▸ OG.out, CH.out⟩
    · have hlen : (setB L p v j).length = n := by rw [setB_len, hL]
      obtain ⟨P, hP⟩ : ∃ P, setB L p v j = P := ⟨_, rfl⟩
      rw [hP] at OG hlen
      have HP := Lib.hid hP
      clear hP
      have eW : IntKind.i64.wrap (8 * (j : Int)) = 8 * (j : Int) := i64_wraps _ (by omega) (by omega)
      have eW2 : IntKind.i64.wrap ((p : Int) + j) = ((p + j : Nat) : Int) := by rw [show (p : Int) + j = ((p + j : Nat) : Int) by omega]; exact i64_wraps _ (by omega) (by omega)
      have eW3 : IntKind.i64.wrap ((j : Int) + 1) = ((j + 1 : Nat) : Int) := by rw [show (j : Int) + 1 = ((j + 1 : Nat) : Int) by omega]; exact i64_wraps _ (by omega) (by omega)
      have h0 : (0 : Int) ≤ 8 * (j : Int) := by omega
      have h0n : ¬ (8 * (j : Int) < 0) := by omega
      have eN : (8 * (j : Int)).toNat = 8 * j := by omega
      have eB : IntKind.u8.wrap (v / 2 ^ (8 * j)) = byteAt v j := rfl
      go_upto_region 3 with (fail)
      refine wp_region_noPanic ?_
      refine wp_region_held_drew (S := fun w' => w'.cell? ⟨OB, 0, none⟩ = some (.slice (some ⟨g, 0, none⟩) n n)) (by kernel_rfl) ((OB1.out.cell 0).trans rfl) (fun hHeld => ?_)
      refine wpAnyH_take (i := 0) (v := .slice (some ⟨g, 0, none⟩) n n) rfl (by kernel_rfl) (by kernel_rfl) (by kernel_rfl) (fun _ _ _ h => h) (Or.inl ⟨by rfl, fun w hS => by (have hc := hS); go_simp⟩) hHeld ?_
      simp only [Act.put, List.setIfInBounds_toArray, List.set_cons_zero, List.set_cons_succ, List.getElem_toArray, List.getElem_cons_zero, List.getElem_cons_succ]
      refine wpAnyH_take (i := 1) (v := .int .i64 p) rfl (by kernel_rfl) (by kernel_rfl) (by kernel_rfl) (fun _ _ _ h => h) (Or.inl ⟨by rfl, fun w hS => by go_simp⟩) hHeld ?_
      simp only [Act.put, List.setIfInBounds_toArray, List.set_cons_zero, List.set_cons_succ, List.getElem_toArray, List.getElem_cons_zero, List.getElem_cons_succ]
      refine wpAnyH_take (i := 2) (v := .int .i64 j) rfl (by kernel_rfl) (by kernel_rfl) (by kernel_rfl) (fun _ _ _ h => h) (Or.inl ⟨by rfl, fun w hS => by go_simp⟩) hHeld ?_
      simp only [Act.put, List.setIfInBounds_toArray, List.set_cons_zero, List.set_cons_succ, List.getElem_toArray, List.getElem_cons_zero, List.getElem_cons_succ]
      refine wpAnyH_take (i := 3) (v := .int .i64 ((p + j : Nat) : Int)) rfl (by kernel_rfl) (by kernel_rfl) (by kernel_rfl) (fun _ _ _ h => h) (Or.inl ⟨by rfl, fun w hS => by (go_simp) <;> first | rfl | assumption | (intro hh; exfalso; omega) | (simp only [eN]; assumption)⟩) hHeld ?_
      simp only [Act.put, List.setIfInBounds_toArray, List.set_cons_zero, List.set_cons_succ, List.getElem_toArray, List.getElem_cons_zero, List.getElem_cons_succ]
      refine wpAnyH_take (i := 4) (v := .int .i64 v) rfl (by kernel_rfl) (by kernel_rfl) (by kernel_rfl) (fun _ _ _ h => h) (Or.inl ⟨by rfl, fun w hS => by go_simp⟩) hHeld ?_
      simp only [Act.put, List.setIfInBounds_toArray, List.set_cons_zero, List.set_cons_succ, List.getElem_toArray, List.getElem_cons_zero, List.getElem_cons_succ]
      refine wpAnyH_take (i := 5) (v := .int .i64 j) rfl (by kernel_rfl) (by kernel_rfl) (by kernel_rfl) (fun _ _ _ h => h) (Or.inl ⟨by rfl, fun w hS => by go_simp⟩) hHeld ?_
      simp only [Act.put, List.setIfInBounds_toArray, List.set_cons_zero, List.set_cons_succ, List.getElem_toArray, List.getElem_cons_zero, List.getElem_cons_succ]
      refine wpAnyH_take (i := 6) (v := .int .i64 (8 * (j : Int))) rfl (by kernel_rfl) (by kernel_rfl) (by kernel_rfl) (fun _ _ _ h => h) (Or.inl ⟨by rfl, fun w hS => by (go_simp) <;> first | rfl | assumption | (intro hh; exfalso; omega) | (simp only [eN]; assumption)⟩) hHeld ?_
      simp only [Act.put, List.setIfInBounds_toArray, List.set_cons_zero, List.set_cons_succ, List.getElem_toArray, List.getElem_cons_zero, List.getElem_cons_succ]
      refine wpAnyH_take (i := 7) (v := .int .i64 (v / 2 ^ (8 * j))) rfl (by kernel_rfl) (by kernel_rfl) (by kernel_rfl) (fun _ _ _ h => h) (Or.inl ⟨by rfl, fun w hS => by (go_simp) <;> first | rfl | assumption | (intro hh; exfalso; omega) | (simp only [eN]; assumption)⟩) hHeld ?_
      simp only [Act.put, List.setIfInBounds_toArray, List.set_cons_zero, List.set_cons_succ, List.getElem_toArray, List.getElem_cons_zero, List.getElem_cons_succ]
      refine wpAnyH_take (i := 8) (v := .int .u8 (byteAt v j)) rfl (by kernel_rfl) (by kernel_rfl) (by kernel_rfl) (fun _ _ _ h => h) (Or.inl ⟨by rfl, fun w hS => by (go_simp) <;> first | rfl | assumption | (intro hh; exfalso; omega) | (simp only [eN]; assumption)⟩) hHeld ?_
      simp only [Act.put, List.setIfInBounds_toArray, List.set_cons_zero, List.set_cons_succ, List.getElem_toArray, List.getElem_cons_zero, List.getElem_cons_succ]
      refine wpAnyH_take (i := 9) (v := .pointer (some ⟨g, p + j, none⟩)) rfl (by kernel_rfl) (by kernel_rfl) (by kernel_rfl) (fun _ _ _ h => h) (Or.inl ⟨by rfl, fun w hS => by (go_simp); (rw [if_pos ⟨by omega, by omega⟩, show ((p : Int) + j).toNat = p + j by omega])⟩) hHeld ?_
      simp only [Act.put, List.setIfInBounds_toArray, List.set_cons_zero, List.set_cons_succ, List.getElem_toArray, List.getElem_cons_zero, List.getElem_cons_succ]
      have OG := Lib.hid (OG.out.drew)
      have OB1 := Lib.hid (OB1.out.drew)
      have CH := Lib.hid CH.out.drew
      generalize World.drew _ = wk at OG OB1 CH ⊢
      have cB : wk.cell? ⟨g, p + j, none⟩ = some (.int .u8 (P.getD (p + j) 0)) := (OG.out.cell (p + j)).trans (by rw [List.getElem?_toArray, List.getElem?_map, List.getElem?_eq_getElem (by omega), List.getD_eq_getElem?_getD, List.getElem?_eq_getElem (by omega)]; rfl)
      have fB : wk.frozen? ⟨g, p + j, none⟩ = false := OG.out.frozen (p + j)
      refine wpAnyH_ready (rs := [10]) (by kernel_rfl) (by simp) ?_
      refine AllReadyH.cons (o := _) rfl (fun K' hK => ?_) AllReadyH.nil
      go_simp
      have OG := Lib.hid (OG.out.setL (p + j) (byteAt v j))
      have OB1 := Lib.hid (OB1.out.set_other ⟨g, p + j, none⟩ (.int .u8 (byteAt v j)) (by simpa using hne))
      have CH := Lib.hid (CH.out.set ⟨g, p + j, none⟩ (.int .u8 (byteAt v j)) (Or.inl rfl))
      generalize World.setCell _ _ _ = wk2 at OG OB1 CH ⊢
      refine hK _ _ ((OB1.out.cell 0).trans rfl) (fun hH1 => ?_)
      clear hK K' cB fB
      try simp only [Act.put, List.setIfInBounds_toArray, List.set_cons_zero, List.set_cons_succ, List.getElem_toArray, List.getElem_cons_zero, List.getElem_cons_succ]
      obtain ⟨wk, rfl⟩ : ∃ z, z = wk2 := ⟨_, rfl⟩
      refine wpAnyH_done (by kernel_rfl) ?_ _
      refine NoPanic.normal ?_
      go_wp2_with fail
      go_roundw
      case rel => exact ⟨j + 1, by omega, by first | rfl | go_num, by rw [setB, HP.out]; exact OG.out, CH.out⟩
      case measure => simp [intOf]; omega
/-- What 'again' answers. -/
def AgainPost (w : World) (S : ByteArray) (e : Ending) (w' : World) : Prop :=
  ((∃ k a : Int, k ≠ 0 ∧ rRead20 S 0 = rBad20 k a ∧ e = .returned (.tuple #[.agg zero16.toArray, .bool false])) ∨
   (∃ (H : Hd) (m : List Int) (r g b q en : Int), H.fine ∧ rRead20 S 0 = rOk H r g b q 0 en ∧ e = .returned (.tuple #[.agg (H.at m 0).toArray, .bool true]) ∧ mWords m r g b q ∧ H.sz = lowK S 0 4 ∧ en = (0 : Int) + (if H.sz = 40 ∧ H.mt = 3 then 52 else H.sz) ∧ (∃ n : Nat, lowK S 0 4 = n ∧ H = hdOf (S.extract 0 (0 + n))) ∧ m = (if H.mt = 3 then mk8 (mkR S 0 H.sz) H.dp else comM H.dp))) ∧ Below w.heap.size w w'
set_option maxRecDepth 100000 in
set_option maxHeartbeats 8000000 in
theorem again_any (S : ByteArray) (w : World) (hs : S.size ≤ 100000) : Calls Try.prog 82 #[.string S] w (AgainPost w S) := by
  have HN := Lib.hid (fun w0 => lnew_k 9 w0 (by simp))
  have HS := Lib.hid (fun L l w0 hL => snew_c7 L S l w0 (by omega) hL)
  have O2 := Lib.hid (obj1_new w #[.int .i64 0, .int .i64 0, .int .i64 0, .bool false, .int .i64 0, .int .i64 0, .int .i64 0, .int .i64 0, .int .i64 0, .int .i64 0, .int .i64 0, .int .i64 0, .int .i64 0, .int .i64 0, .int .i64 0, .int .i64 0] 61)
  have BL := Lib.hid ((Below.refl w.heap.size w).alloc (Nat.le_refl _) (.cells #[.int .i64 0, .int .i64 0, .int .i64 0, .bool false, .int .i64 0, .int .i64 0, .int .i64 0, .int .i64 0, .int .i64 0, .int .i64 0, .int .i64 0, .int .i64 0, .int .i64 0, .int .i64 0, .int .i64 0, .int .i64 0] 61))
  go_enter Try.func82, Try.ntmps82
  go_upto_region 1 with (fail)
  generalize World.alloc _ _ = w0 at O2 BL ⊢
  go_wp2_with fail
  refine (HN.out _).mono ?_
  rintro e w1 ⟨L, rfl, hL1, hs1, hC1⟩
  have hz1 := hC1.size
  have lz := O2.out.lt
  have hb1 := chg_none hC1
  have O2 := Lib.hid (O2.out.below hb1 O2.out.lt)
  have BL := Lib.hid (bthen hb1 BL.out BL.out.size)
  have hL : w.heap.size + 1 ≤ L := by omega
  clear hC1 hb1
  go_wp2_with fail
  refine (HS.out L _ _ hL1).mono ?_
  rintro e w2 ⟨X, rfl, hP2, hs2, hB2⟩
  have lz1 := O2.out.lt
  have hX : w.heap.size + 1 ≤ X := by omega
  have O2 := Lib.hid (O2.out.below hB2 O2.out.lt)
  have BL := Lib.hid (bthen hB2 BL.out BL.out.size)
  have PX := Lib.hid hP2
  clear hP2 hB2 hL1
  have HCS := Lib.hid (dib_eq ⟨L, S, 0, S.size, 0⟩ (Led.new 0 0 0 9) 1 ⟨Nat.le_refl _, by simp only; omega, Nat.le_refl _, by simp only; omega⟩ rfl hs rfl (by decide))
  go_wp2_with fail
  refine (hread_any X _ _ 1 _ PX.out).mono ?_
  rintro e w5 ⟨rfl, hP5, hC5⟩
  have O2 := Lib.hid (hC5.obj O2.out (by unfold two; simp only; omega))
  have BL := Lib.hid (chg_two BL.out hC5 (by omega) (by simp only; omega))
  clear hP5 hC5 PX
  have O7 := Lib.hid ((obj1_new w5 #[.int .i64 0, .int .i64 0, .int .i64 0, .bool false, .int .i64 0, .int .i64 0, .int .i64 0, .int .i64 0, .int .i64 0, .int .i64 0, .int .i64 0, .int .i64 0, .int .i64 0, .int .i64 0, .int .i64 0, .int .i64 0] 61).alloc (.cells #[.int .i64 0, .int .i64 0, .int .i64 0] 63))
  have O8 := Lib.hid (obj1_new (w5.alloc (.cells #[.int .i64 0, .int .i64 0, .int .i64 0, .bool false, .int .i64 0, .int .i64 0, .int .i64 0, .int .i64 0, .int .i64 0, .int .i64 0, .int .i64 0, .int .i64 0, .int .i64 0, .int .i64 0, .int .i64 0, .int .i64 0] 61)) #[.int .i64 0, .int .i64 0, .int .i64 0] 63)
  rw [show (w5.alloc (.cells #[.int .i64 0, .int .i64 0, .int .i64 0, .bool false, .int .i64 0, .int .i64 0, .int .i64 0, .int .i64 0, .int .i64 0, .int .i64 0, .int .i64 0, .int .i64 0, .int .i64 0, .int .i64 0, .int .i64 0, .int .i64 0] 61)).heap.size = w5.heap.size + 1 by simp] at O8
  have l2 := O2.out.lt
  have O2 := Lib.hid ((O2.out.alloc (.cells #[.int .i64 0, .int .i64 0, .int .i64 0, .bool false, .int .i64 0, .int .i64 0, .int .i64 0, .int .i64 0, .int .i64 0, .int .i64 0, .int .i64 0, .int .i64 0, .int .i64 0, .int .i64 0, .int .i64 0, .int .i64 0] 61)).alloc (.cells #[.int .i64 0, .int .i64 0, .int .i64 0] 63))
  have BL := Lib.hid ((BL.out.alloc BL.out.size (.cells #[.int .i64 0, .int .i64 0, .int .i64 0, .bool false, .int .i64 0, .int .i64 0, .int .i64 0, .int .i64 0, .int .i64 0, .int .i64 0, .int .i64 0, .int .i64 0, .int .i64 0, .int .i64 0, .int .i64 0, .int .i64 0] 61)).alloc (Nat.le_trans BL.out.size (by simp)) (.cells #[.int .i64 0, .int .i64 0, .int .i64 0] 63))
  rcases HCS.out with ⟨k, at0, hk, hR, hD⟩ | ⟨H0, m0, r, g, b, q, en, hfine, hR, hD, hM, hen, hsz4, henE, hHd, hm⟩
  · have hk0 : (k == 0) = false := eqf hk
    have HK := Lib.hid hk
    rw [hD]
    clear HCS
    rw [show zero16 = [.int .i64 0, .int .i64 0, .int .i64 0, .bool false, .int .i64 0, .int .i64 0, .int .i64 0, .int .i64 0, .int .i64 0, .int .i64 0, .int .i64 0, .int .i64 0, .int .i64 0, .int .i64 0, .int .i64 0, .int .i64 0] from rfl]
    go_upto_region 4 with (first
      | (refine store_o rfl 61 16 _ _ rfl w5.heap.size [.int .i64 0, .int .i64 0, .int .i64 0, .bool false, .int .i64 0, .int .i64 0, .int .i64 0, .int .i64 0, .int .i64 0, .int .i64 0, .int .i64 0, .int .i64 0, .int .i64 0, .int .i64 0, .int .i64 0, .int .i64 0] rfl rfl (by kernel_rfl) (by kernel_rfl) (by kernel_rfl) O7.out (by first | rfl | simp) ?_; intro ws hst hO; have O7 := Lib.hid hO; have O2 := Lib.hid (hst.oth O2.out (by omega)); have O8 := Lib.hid (hst.oth O8.out (by omega)); have BL := Lib.hid (hst.below BL.out (by omega)); clear hst hO)
      | (refine store_o rfl 63 3 _ _ rfl (w5.heap.size + 1) [.int .i64 k, .int .i64 1, .int .i64 at0] rfl rfl (by kernel_rfl) (by kernel_rfl) (by kernel_rfl) O8.out (by first | rfl | simp) ?_; intro wu hst hO; have O8 := Lib.hid hO; have O2 := Lib.hid (hst.oth O2.out (by omega)); have O7 := Lib.hid (hst.oth O7.out (by omega)); have BL := Lib.hid (hst.below BL.out (by omega)); clear hst hO))
    refine wp_region_noPanic ?_
    refine wp_region_held_drew (S := fun w' => w'.rangeAt (w5.heap.size) 0 [.int .i64 0, .int .i64 0, .int .i64 0, .bool false, .int .i64 0, .int .i64 0, .int .i64 0, .int .i64 0, .int .i64 0, .int .i64 0, .int .i64 0, .int .i64 0, .int .i64 0, .int .i64 0, .int .i64 0, .int .i64 0] ∧ w'.rangeAt (w5.heap.size + 1) 0 [.int .i64 k, .int .i64 1, .int .i64 at0]) (by kernel_rfl) ⟨O7.out.range0, O8.out.range0⟩ (fun hHeld => ?_)
    refine wpAnyH_take (i := 0) rfl (by kernel_rfl) (by kernel_rfl) (by kernel_rfl) (fun _ _ _ h => h) (yieldsIf_load_mid (by rfl) 61 _ rfl (w5.heap.size) 0 rfl [.int .i64 0, .int .i64 0, .int .i64 0, .bool false, .int .i64 0, .int .i64 0, .int .i64 0, .int .i64 0, .int .i64 0, .int .i64 0, .int .i64 0, .int .i64 0, .int .i64 0, .int .i64 0, .int .i64 0, .int .i64 0] _ (fun _ h => h.1) Try.underlying61 rfl (by kernel_rfl)) hHeld ?_
    simp only [Act.put, List.setIfInBounds_toArray, List.set_cons_zero, List.set_cons_succ, List.getElem_toArray, List.getElem_cons_zero, List.getElem_cons_succ]
    refine wpAnyH_take (i := 1) (v := .pointer (some ⟨w5.heap.size + 1, 0, none⟩)) rfl (by kernel_rfl) (by kernel_rfl) (by kernel_rfl) (fun _ _ _ h => h) (Or.inl ⟨by rfl, fun w hS => by go_simp⟩) hHeld ?_
    simp only [Act.put, List.setIfInBounds_toArray, List.set_cons_zero, List.set_cons_succ, List.getElem_toArray, List.getElem_cons_zero, List.getElem_cons_succ]
    refine wpAnyH_take (i := 2) (v := .int .i64 k) rfl (by kernel_rfl) (by kernel_rfl) (by kernel_rfl) (fun _ _ _ h => h) (Or.inl ⟨by rfl, fun w hS => by (have hc : w.cell? ⟨w5.heap.size + 1, 0, none⟩ = some (.int .i64 k) := hS.2 0 _ rfl); go_simp⟩) hHeld ?_
    simp only [Act.put, List.setIfInBounds_toArray, List.set_cons_zero, List.set_cons_succ, List.getElem_toArray, List.getElem_cons_zero, List.getElem_cons_succ]
    refine wpAnyH_take (i := 3) (v := .bool false) rfl (by kernel_rfl) (by kernel_rfl) (by kernel_rfl) (fun _ _ _ h => h) (Or.inl ⟨by rfl, fun w hS => by go_simp⟩) hHeld ?_
    simp only [Act.put, List.setIfInBounds_toArray, List.set_cons_zero, List.set_cons_succ, List.getElem_toArray, List.getElem_cons_zero, List.getElem_cons_succ]
    have O2 := Lib.hid (O2.out.drew)
    have O7 := Lib.hid (O7.out.drew)
    have O8 := Lib.hid (O8.out.drew)
    have BL := Lib.hid BL.out.drew
    generalize World.drew _ = wk at O2 O7 O8 BL ⊢
    refine wpAnyH_ready (rs := [4]) (by kernel_rfl) (by simp) ?_
    refine AllReadyH.cons (o := _) rfl (fun K' hK => ?_) AllReadyH.nil
    rw [if_pos (by rfl)]
    refine wp_store_mid 61 _ _ rfl (w.heap.size) 0 (List.toArray [.int .i64 0, .int .i64 0, .int .i64 0, .bool false, .int .i64 0, .int .i64 0, .int .i64 0, .int .i64 0, .int .i64 0, .int .i64 0, .int .i64 0, .int .i64 0, .int .i64 0, .int .i64 0, .int .i64 0, .int .i64 0]) rfl rfl (O2.out.there 0 16 (by simp)) (by kernel_rfl) (all_oneCell_toArray (List.all_eq_true.1 (by rfl))) ?_
    simp only [Act.put, List.setIfInBounds_toArray, List.set_cons_zero, List.set_cons_succ, List.getElem_toArray, List.getElem_cons_zero, List.getElem_cons_succ]
    have hst : Stored wk (w.heap.size) 0 [.int .i64 0, .int .i64 0, .int .i64 0, .bool false, .int .i64 0, .int .i64 0, .int .i64 0, .int .i64 0, .int .i64 0, .int .i64 0, .int .i64 0, .int .i64 0, .int .i64 0, .int .i64 0, .int .i64 0, .int .i64 0] (wk.setCells (w.heap.size) 0 [.int .i64 0, .int .i64 0, .int .i64 0, .bool false, .int .i64 0, .int .i64 0, .int .i64 0, .int .i64 0, .int .i64 0, .int .i64 0, .int .i64 0, .int .i64 0, .int .i64 0, .int .i64 0, .int .i64 0, .int .i64 0]) := rfl
    have O2 := Lib.hid (hst.whole O2.out (by first | rfl | simp))
    have O7 := Lib.hid (hst.oth O7.out (by omega))
    have O8 := Lib.hid (hst.oth O8.out (by omega))
    have BL := Lib.hid (hst.below BL.out (by omega))
    generalize World.setCells _ _ _ _ = wk2 at O2 O7 O8 BL ⊢
    clear hst
    refine hK _ _ ⟨O7.out.range0, O8.out.range0⟩ (fun hH1 => ?_)
    clear hK K'
    obtain ⟨wk, rfl⟩ : ∃ z, z = wk2 := ⟨_, rfl⟩
    refine wpAnyH_take (i := 5) (v := .bool false) rfl (by kernel_rfl) (by kernel_rfl) (by kernel_rfl) (fun _ _ _ h => h) (Or.inl ⟨by rfl, fun w hS => by go_simp⟩) hH1 ?_
    simp only [Act.put, List.setIfInBounds_toArray, List.set_cons_zero, List.set_cons_succ, List.getElem_toArray, List.getElem_cons_zero, List.getElem_cons_succ]
    refine wpAnyH_done (by kernel_rfl) ?_ _
    refine NoPanic.normal ?_
    go_wp2_with fail
    refine bodyPost_ret (v := .tuple #[.agg (List.toArray [.int .i64 0, .int .i64 0, .int .i64 0, .bool false, .int .i64 0, .int .i64 0, .int .i64 0, .int .i64 0, .int .i64 0, .int .i64 0, .int .i64 0, .int .i64 0, .int .i64 0, .int .i64 0, .int .i64 0, .int .i64 0]), .bool false]) ?_ rfl ⟨Or.inl ⟨k, at0, hk, hR, rfl⟩, BL.out⟩
    exact results_c1 Try.results82 _ _ _ [.int .i64 0, .int .i64 0, .int .i64 0, .bool false, .int .i64 0, .int .i64 0, .int .i64 0, .int .i64 0, .int .i64 0, .int .i64 0, .int .i64 0, .int .i64 0, .int .i64 0, .int .i64 0, .int .i64 0, .int .i64 0] _ rfl O2.out.range0 Try.underlying61 rfl (by kernel_rfl)
  · have GOOD := Lib.hid (show ∃ (H : Hd) (m : List Int) (r g b q en : Int), H.fine ∧ rRead20 S 0 = rOk H r g b q 0 en ∧ Ending.returned (.tuple #[.agg (H0.at m0 0).toArray, .bool true]) = .returned (.tuple #[.agg (H.at m 0).toArray, .bool true]) ∧ mWords m r g b q ∧ H.sz = lowK S 0 4 ∧ en = (0 : Int) + (if H.sz = 40 ∧ H.mt = 3 then 52 else H.sz) ∧ (∃ n : Nat, lowK S 0 4 = n ∧ H = hdOf (S.extract 0 (0 + n))) ∧ m = (if H.mt = 3 then mk8 (mkR S 0 H.sz) H.dp else comM H.dp) from ⟨H0, m0, r, g, b, q, en, hfine, hR, rfl, hM, hsz4, henE, hHd, hm⟩)
    obtain ⟨k0, k1, k2, k3, k4, k5, k6, k7, rfl, -, -, -, -⟩ := hM
    obtain ⟨sz, W, HH, top, dp, mt, co, m1, fr1⟩ := H0
    have hD : (hRead ⟨L, S, 0, S.size, 0⟩ (Led.new 0 0 0 9) 1).1 = ([.int .i64 sz, .int .i64 W, .int .i64 HH, .bool top, .int .i64 dp, .int .i64 mt, .int .i64 co, .int .i64 k0, .int .i64 k1, .int .i64 k2, .int .i64 k3, .int .i64 k4, .int .i64 k5, .int .i64 k6, .int .i64 k7, .int .i64 0], [.int .i64 0, .int .i64 0, .int .i64 0]) := hD
    clear hfine hR hen hsz4 henE hHd hm
    rw [hD]
    clear HCS
    go_upto_region 4 with (first
      | (refine store_o rfl 61 16 _ _ rfl w5.heap.size [.int .i64 sz, .int .i64 W, .int .i64 HH, .bool top, .int .i64 dp, .int .i64 mt, .int .i64 co, .int .i64 k0, .int .i64 k1, .int .i64 k2, .int .i64 k3, .int .i64 k4, .int .i64 k5, .int .i64 k6, .int .i64 k7, .int .i64 0] rfl rfl (by kernel_rfl) (by kernel_rfl) (by kernel_rfl) O7.out (by first | rfl | simp) ?_; intro ws hst hO; have O7 := Lib.hid hO; have O2 := Lib.hid (hst.oth O2.out (by omega)); have O8 := Lib.hid (hst.oth O8.out (by omega)); have BL := Lib.hid (hst.below BL.out (by omega)); clear hst hO)
      | (refine store_o rfl 63 3 _ _ rfl (w5.heap.size + 1) [.int .i64 0, .int .i64 0, .int .i64 0] rfl rfl (by kernel_rfl) (by kernel_rfl) (by kernel_rfl) O8.out (by first | rfl | simp) ?_; intro wu hst hO; have O8 := Lib.hid hO; have O2 := Lib.hid (hst.oth O2.out (by omega)); have O7 := Lib.hid (hst.oth O7.out (by omega)); have BL := Lib.hid (hst.below BL.out (by omega)); clear hst hO))
    refine wp_region_noPanic ?_
    refine wp_region_held_drew (S := fun w' => w'.rangeAt (w5.heap.size) 0 [.int .i64 sz, .int .i64 W, .int .i64 HH, .bool top, .int .i64 dp, .int .i64 mt, .int .i64 co, .int .i64 k0, .int .i64 k1, .int .i64 k2, .int .i64 k3, .int .i64 k4, .int .i64 k5, .int .i64 k6, .int .i64 k7, .int .i64 0] ∧ w'.rangeAt (w5.heap.size + 1) 0 [.int .i64 0, .int .i64 0, .int .i64 0]) (by kernel_rfl) ⟨O7.out.range0, O8.out.range0⟩ (fun hHeld => ?_)
    refine wpAnyH_take (i := 0) rfl (by kernel_rfl) (by kernel_rfl) (by kernel_rfl) (fun _ _ _ h => h) (yieldsIf_load_mid (by rfl) 61 _ rfl (w5.heap.size) 0 rfl [.int .i64 sz, .int .i64 W, .int .i64 HH, .bool top, .int .i64 dp, .int .i64 mt, .int .i64 co, .int .i64 k0, .int .i64 k1, .int .i64 k2, .int .i64 k3, .int .i64 k4, .int .i64 k5, .int .i64 k6, .int .i64 k7, .int .i64 0] _ (fun _ h => h.1) Try.underlying61 rfl (by kernel_rfl)) hHeld ?_
    simp only [Act.put, List.setIfInBounds_toArray, List.set_cons_zero, List.set_cons_succ, List.getElem_toArray, List.getElem_cons_zero, List.getElem_cons_succ]
    refine wpAnyH_take (i := 1) (v := .pointer (some ⟨w5.heap.size + 1, 0, none⟩)) rfl (by kernel_rfl) (by kernel_rfl) (by kernel_rfl) (fun _ _ _ h => h) (Or.inl ⟨by rfl, fun w hS => by go_simp⟩) hHeld ?_
    simp only [Act.put, List.setIfInBounds_toArray, List.set_cons_zero, List.set_cons_succ, List.getElem_toArray, List.getElem_cons_zero, List.getElem_cons_succ]
    refine wpAnyH_take (i := 2) (v := .int .i64 0) rfl (by kernel_rfl) (by kernel_rfl) (by kernel_rfl) (fun _ _ _ h => h) (Or.inl ⟨by rfl, fun w hS => by (have hc : w.cell? ⟨w5.heap.size + 1, 0, none⟩ = some (.int .i64 0) := hS.2 0 _ rfl); go_simp⟩) hHeld ?_
    simp only [Act.put, List.setIfInBounds_toArray, List.set_cons_zero, List.set_cons_succ, List.getElem_toArray, List.getElem_cons_zero, List.getElem_cons_succ]
    refine wpAnyH_take (i := 3) (v := .bool true) rfl (by kernel_rfl) (by kernel_rfl) (by kernel_rfl) (fun _ _ _ h => h) (Or.inl ⟨by rfl, fun w hS => by go_simp⟩) hHeld ?_
    simp only [Act.put, List.setIfInBounds_toArray, List.set_cons_zero, List.set_cons_succ, List.getElem_toArray, List.getElem_cons_zero, List.getElem_cons_succ]
    have O2 := Lib.hid (O2.out.drew)
    have O7 := Lib.hid (O7.out.drew)
    have O8 := Lib.hid (O8.out.drew)
    have BL := Lib.hid BL.out.drew
    generalize World.drew _ = wk at O2 O7 O8 BL ⊢
    refine wpAnyH_ready (rs := [4]) (by kernel_rfl) (by simp) ?_
    refine AllReadyH.cons (o := _) rfl (fun K' hK => ?_) AllReadyH.nil
    rw [if_pos (by rfl)]
    refine wp_store_mid 61 _ _ rfl (w.heap.size) 0 (List.toArray [.int .i64 sz, .int .i64 W, .int .i64 HH, .bool top, .int .i64 dp, .int .i64 mt, .int .i64 co, .int .i64 k0, .int .i64 k1, .int .i64 k2, .int .i64 k3, .int .i64 k4, .int .i64 k5, .int .i64 k6, .int .i64 k7, .int .i64 0]) rfl rfl (O2.out.there 0 16 (by simp)) (by kernel_rfl) (all_oneCell_toArray (List.all_eq_true.1 (by rfl))) ?_
    simp only [Act.put, List.setIfInBounds_toArray, List.set_cons_zero, List.set_cons_succ, List.getElem_toArray, List.getElem_cons_zero, List.getElem_cons_succ]
    have hst : Stored wk (w.heap.size) 0 [.int .i64 sz, .int .i64 W, .int .i64 HH, .bool top, .int .i64 dp, .int .i64 mt, .int .i64 co, .int .i64 k0, .int .i64 k1, .int .i64 k2, .int .i64 k3, .int .i64 k4, .int .i64 k5, .int .i64 k6, .int .i64 k7, .int .i64 0] (wk.setCells (w.heap.size) 0 [.int .i64 sz, .int .i64 W, .int .i64 HH, .bool top, .int .i64 dp, .int .i64 mt, .int .i64 co, .int .i64 k0, .int .i64 k1, .int .i64 k2, .int .i64 k3, .int .i64 k4, .int .i64 k5, .int .i64 k6, .int .i64 k7, .int .i64 0]) := rfl
    have O2 := Lib.hid (hst.whole O2.out (by first | rfl | simp))
    have O7 := Lib.hid (hst.oth O7.out (by omega))
    have O8 := Lib.hid (hst.oth O8.out (by omega))
    have BL := Lib.hid (hst.below BL.out (by omega))
    generalize World.setCells _ _ _ _ = wk2 at O2 O7 O8 BL ⊢
    clear hst
    refine hK _ _ ⟨O7.out.range0, O8.out.range0⟩ (fun hH1 => ?_)
    clear hK K'
    obtain ⟨wk, rfl⟩ : ∃ z, z = wk2 := ⟨_, rfl⟩
    refine wpAnyH_take (i := 5) (v := .bool true) rfl (by kernel_rfl) (by kernel_rfl) (by kernel_rfl) (fun _ _ _ h => h) (Or.inl ⟨by rfl, fun w hS => by go_simp⟩) hH1 ?_
    simp only [Act.put, List.setIfInBounds_toArray, List.set_cons_zero, List.set_cons_succ, List.getElem_toArray, List.getElem_cons_zero, List.getElem_cons_succ]
    refine wpAnyH_done (by kernel_rfl) ?_ _
    refine NoPanic.normal ?_
    go_wp2_with fail
    refine bodyPost_ret (v := .tuple #[.agg (List.toArray [.int .i64 sz, .int .i64 W, .int .i64 HH, .bool top, .int .i64 dp, .int .i64 mt, .int .i64 co, .int .i64 k0, .int .i64 k1, .int .i64 k2, .int .i64 k3, .int .i64 k4, .int .i64 k5, .int .i64 k6, .int .i64 k7, .int .i64 0]), .bool true]) ?_ rfl ⟨Or.inr GOOD.out, BL.out⟩
    exact results_c1 Try.results82 _ _ _ [.int .i64 sz, .int .i64 W, .int .i64 HH, .bool top, .int .i64 dp, .int .i64 mt, .int .i64 co, .int .i64 k0, .int .i64 k1, .int .i64 k2, .int .i64 k3, .int .i64 k4, .int .i64 k5, .int .i64 k6, .int .i64 k7, .int .i64 0] _ rfl O2.out.range0 Try.underlying61 rfl (by kernel_rfl)
end Go.Proofs.Ytlhcjnjajkfahaa

/- r30.Named, walked. -/
import Derived.Test.YtlhcjnjajkfahaaNH
import Derived.Test.YtlhcjnjajkfahaaNB
import Derived.Test.YtlhcjnjajkfahaaO6
import Derived.Test.YtlhcjnjajkfahaaT2
namespace Go.Proofs.Ytlhcjnjajkfahaa
open Go.RowKit
set_option linter.unusedVariables false
set_option linter.unusedSimpArgs false
def nmL : List ByteArray := [⟨#[98, 109, 112]⟩, ⟨#[100, 105, 98]⟩, ⟨#[116, 103, 97]⟩, ⟨#[112, 112, 109]⟩, ⟨#[112, 98, 109]⟩, ⟨#[112, 103, 109]⟩, ⟨#[112, 110, 109]⟩, ⟨#[105, 99, 111]⟩, ⟨#[99, 117, 114]⟩, ⟨#[113, 111, 105]⟩, ⟨#[102, 102]⟩, ⟨#[112, 99, 120]⟩, ⟨#[114, 97, 115]⟩, ⟨#[115, 117, 110]⟩]
def fmL : List Int := [1, 1, 2, 3, 3, 3, 3, 4, 4, 5, 6, 7, 8, 8]
def nmV : List Value := [.string ⟨#[98, 109, 112]⟩, .string ⟨#[100, 105, 98]⟩, .string ⟨#[116, 103, 97]⟩, .string ⟨#[112, 112, 109]⟩, .string ⟨#[112, 98, 109]⟩, .string ⟨#[112, 103, 109]⟩, .string ⟨#[112, 110, 109]⟩, .string ⟨#[105, 99, 111]⟩, .string ⟨#[99, 117, 114]⟩, .string ⟨#[113, 111, 105]⟩, .string ⟨#[102, 102]⟩, .string ⟨#[112, 99, 120]⟩, .string ⟨#[114, 97, 115]⟩, .string ⟨#[115, 117, 110]⟩]
def fmV : List Value := [.int .i64 1, .int .i64 1, .int .i64 2, .int .i64 3, .int .i64 3, .int .i64 3, .int .i64 3, .int .i64 4, .int .i64 4, .int .i64 5, .int .i64 6, .int .i64 7, .int .i64 8, .int .i64 8]
def nmFrom : List ByteArray → List Int → ByteArray → Int
  | n :: ns, f :: fs, e => if n = e then f else nmFrom ns fs e
  | _, _, _ => 0
def rnamedB (s : ByteArray) : Int := if lastAt s 46 s.size < 0 then 0 else nmFrom nmL fmL (endS s)
theorem nm_at (k : Nat) (h : k < 14) : nmV.toArray[k]? = some (.string (nmL.getD k ByteArray.empty)) ∧ fmV.toArray[k]? = some (.int .i64 (fmL.getD k 0)) ∧ nmL.drop k = nmL.getD k ByteArray.empty :: nmL.drop (k + 1) ∧ fmL.drop k = fmL.getD k 0 :: fmL.drop (k + 1) := by
  rcases (show k = 0 ∨ k = 1 ∨ k = 2 ∨ k = 3 ∨ k = 4 ∨ k = 5 ∨ k = 6 ∨ k = 7 ∨ k = 8 ∨ k = 9 ∨ k = 10 ∨ k = 11 ∨ k = 12 ∨ k = 13 by omega) with rfl | rfl | rfl | rfl | rfl | rfl | rfl | rfl | rfl | rfl | rfl | rfl | rfl | rfl <;> exact ⟨rfl, rfl, rfl, rfl⟩
theorem smallL_take (s : ByteArray) (k : Nat) (h : k < s.size) : (smallL s).take (k + 1) = (smallL s).take k ++ [smN (byN s k)] := by
  rw [List.take_add_one]
  congr 1
  have hl := smallL_len s
  have := smallL_get s k h
  rw [List.getD_eq_getElem?_getD, List.getElem?_eq_getElem (by omega)] at this
  rw [List.getElem?_eq_getElem (by omega)]
  simpa using this
set_option maxRecDepth 100000 in
set_option maxHeartbeats 8000000 in
theorem rnamed_any (s : ByteArray) (w : World) (hs : s.size ≤ 140737488355) : Calls Try.prog 27 #[.string s] w (fun e w' => e = .returned (.int .i64 (rnamedB s)) ∧ Below w.heap.size w w') := by
  obtain ⟨R, hR⟩ : ∃ R, rnamedB s = R := ⟨_, rfl⟩
  have HR := Lib.hid hR
  rw [hR]
  clear hR
  go_enter Try.func27, Try.ntmps27
  go_wp2
  go_loop [3, 4] (fun a i => ∃ k : Nat, k ≤ s.size ∧ i = .int .i64 k ∧ a = .int .i64 (lastAt s 46 k)) (fun _ i => s.size - (intOf i).toNat)
  case atStart => exact ⟨0, by omega, rfl, rfl⟩
  case round =>
    obtain ⟨k, hk, rfl, rfl⟩ := hrel
    by_cases hlt : k < s.size
    rotate_left
    · have hge : s.size ≤ k := by omega
      obtain rfl : k = s.size := by omega
      obtain ⟨a, ha⟩ : ∃ a, lastAt s 46 s.size = a := ⟨_, rfl⟩
      rcases last_cases s 46 s.size with h | ⟨m, hm, h⟩
      · obtain rfl : a = -1 := by omega
        have HZ := Lib.hid (show R = 0 by rw [← HR.out]; unfold rnamedB; rw [h]; rfl)
        rw [ha]
        clear h ha
        go_wp2
        go_ret
        exact ⟨by rw [HZ.out]; rfl, Below.refl _ _⟩
      · obtain rfl : a = (m : Int) := by omega
        have HE := Lib.hid (show nmFrom nmL fmL (strOf (smallL (s.extract (m + 1) s.size))) = R by rw [← HR.out]; unfold rnamedB endS; rw [h, if_neg (by omega)]; rfl)
        rw [ha]
        clear h ha
        have D0 : decide ((m : Int) < 0) = false := by rw [decide_eq_false_iff_not]; omega
        have eW : wrap64 ((m : Int) + 1) = (m : Int) + 1 := IntWalk.wrap64_in _ ⟨by omega, by omega⟩
        have eW' : IntKind.i64.wrap ((m : Int) + 1) = (m : Int) + 1 := (IntWalk.i64_left _).trans eW
        have OW := Lib.hid (show (w.alloc (.cells #[] 5)).ownsRow w.heap.size 5 1 (.slice (some ⟨w.heap.size, 0, none⟩) 0 0) 0 [] from ⟨rfl, Or.inr ⟨w.heap.size, 0, #[], rfl, Nat.le_refl _, heap_alloc_new w _, Nat.le_refl _, Nat.zero_le _, rfl, rfl⟩⟩)
        have BL := Lib.hid ((Below.refl w.heap.size w).alloc (Nat.le_refl _) (.cells #[] 5))
        obtain ⟨t, ht⟩ : ∃ t, s.extract (m + 1) s.size = t := ⟨_, rfl⟩
        have htn : t.size = s.size - (m + 1) := by rw [← ht]; simp
        have htb := Lib.hid (fun k (hk : m + 1 + k < s.size) => show byN t k = byN s (m + 1 + k) by rw [← ht]; exact byN_ext s (m + 1) s.size k hk (Nat.le_refl _))
        rw [ht] at HE
        obtain ⟨L, hL⟩ : ∃ L, smallL t = L := ⟨_, rfl⟩
        have hLl : L.length = t.size := by rw [← hL]; exact smallL_len t
        have hLt := Lib.hid (fun k (hk : k < t.size) => show L.take (k + 1) = L.take k ++ [smN (byN t k)] by rw [← hL]; exact smallL_take t k hk)
        rw [hL] at HE
        clear ht hL HR
        go_wp2
        go_loopw [5, 6, 7] (fun v i b wr => ∃ k p : Nat, p = m + 1 + k ∧ k ≤ t.size ∧ i = .int .i64 p ∧ wr.ownsRow w.heap.size 5 1 v k ((L.take k).map (.int .u8)) ∧ Below w.heap.size w wr) (fun _ i _ _ => s.size - (intOf i).toNat)
        case atStart => exact ⟨0, m + 1, rfl, by omega, by simp, OW.out, BL.out⟩
        case round =>
          obtain ⟨k, p, hp, hk, rfl, hown, hb⟩ := hrel
          have OW := Lib.hid hown
          have BL := Lib.hid hb
          have zw := hb.size
          clear hown hb
          by_cases hlt2 : p < s.size
          rotate_left
          · have hge2 : s.size ≤ p := by omega
            have hkt : k = t.size := by omega
            have OE := OW.out
            rw [hkt, ← hLl, List.take_length] at OE
            have OW := Lib.hid OE
            clear OE
            obtain ⟨E, hE⟩ : ∃ E, strOf L = E := ⟨_, rfl⟩
            rw [hE] at HE
            have HSE := Lib.hid hE
            clear hE
            have O8 := Lib.hid ((obj1_new wr nmV.toArray 9).alloc (.cells fmV.toArray 3))
            have O9 := Lib.hid (obj1_new (wr.alloc (.cells nmV.toArray 9)) fmV.toArray 3)
            rw [show (wr.alloc (.cells nmV.toArray 9)).heap.size = wr.heap.size + 1 by simp] at O9
            have OW := Lib.hid ((OW.out.alloc (.cells nmV.toArray 9)).alloc (.cells fmV.toArray 3))
            have BL := Lib.hid ((BL.out.alloc zw (.cells nmV.toArray 9)).alloc (by simp; omega) (.cells fmV.toArray 3))
            clear htb hLt hp hkt hLl htn
            go_upto_region 19 with (fail)
            obtain ⟨d8, hd8⟩ : ∃ d, wr.heap.size = d := ⟨_, rfl⟩
            rw [hd8] at O8 O9 ⊢
            clear hd8 zw
            go_wp2
            go_loopw [10] (fun c wx => ∃ k : Nat, k ≤ 14 ∧ c = .int .i64 k ∧ nmFrom (nmL.drop k) (fmL.drop k) E = R ∧ Obj1 wx d8 nmV.toArray 9 ∧ Obj1 wx (d8 + 1) fmV.toArray 3 ∧ wx.ownsRow w.heap.size 5 1 u5 L.length (L.map (.int .u8)) ∧ Below w.heap.size w wx) (fun c _ => 14 - (intOf c).toNat)
            case atStart => exact ⟨0, by omega, rfl, HE.out, O8.out, O9.out, OW.out, BL.out⟩
            case round =>
              obtain ⟨k, hk, rfl, hR, h8, h9, hown, hb⟩ := hrel
              have O8 := Lib.hid h8
              have O9 := Lib.hid h9
              have OW := Lib.hid hown
              have BL := Lib.hid hb
              clear h8 h9 hown hb HE
              by_cases hlt : k < 14
              rotate_left
              · have hge : 14 ≤ k := by omega
                have HZ := Lib.hid (show R = 0 by rw [← hR, show k = 14 by omega]; rfl)
                clear hR
                go_wp2
                go_ret
                exact ⟨by rw [HZ.out]; rfl, BL.out⟩
              · have hge : ¬ 14 ≤ k := by omega
                obtain ⟨m1, m2, m3, m4⟩ := nm_at k hlt
                obtain ⟨X, hX⟩ : ∃ X, nmL.getD k ByteArray.empty = X := ⟨_, rfl⟩
                obtain ⟨f, hf⟩ : ∃ f, fmL.getD k 0 = f := ⟨_, rfl⟩
                rw [hX] at m1 m3
                rw [hf] at m2 m4
                rw [m3, m4, nmFrom] at hR
                have ck8 : wr.cell? ⟨d8, k, none⟩ = some (.string X) := (O8.out.cell k).trans m1
                have ck9 : wr.cell? ⟨d8 + 1, k, none⟩ = some (.int .i64 f) := (O9.out.cell k).trans m2
                have CK8 := Lib.hid ck8
                have CK9 := Lib.hid ck9
                clear m1 m2 m3 m4 hX hf ck8 ck9
                go_upto_region 22 with (fail)
                by_cases hXE : X = E
                · rw [if_pos hXE] at hR
                  subst hXE hR
                  refine wp_region_noPanic ?_
                  refine wp_region_held_drew (S := fun w' => w'.cell? ⟨d8, k, none⟩ = some (.string X) ∧ w'.ownsRow w.heap.size 5 1 u5 L.length (L.map (.int .u8))) (by kernel_rfl) ⟨CK8.out, OW.out⟩ (fun hHeld => ?_)
                  refine wpAnyH_take (i := 0) (v := .slice (some ⟨d8, 0, none⟩) 14 14) rfl (by kernel_rfl) (by kernel_rfl) (by kernel_rfl) (fun _ _ _ h => h) (Or.inl ⟨by rfl, fun w _ => by go_simp⟩) hHeld ?_
                  simp only [Act.put, List.setIfInBounds_toArray, List.set_cons_zero, List.set_cons_succ, List.getElem_toArray, List.getElem_cons_zero, List.getElem_cons_succ]
                  refine wpAnyH_take (i := 1) (v := .int .i64 k) rfl (by kernel_rfl) (by kernel_rfl) (by kernel_rfl) (fun _ _ _ h => h) (Or.inl ⟨by rfl, fun w _ => by go_simp⟩) hHeld ?_
                  simp only [Act.put, List.setIfInBounds_toArray, List.set_cons_zero, List.set_cons_succ, List.getElem_toArray, List.getElem_cons_zero, List.getElem_cons_succ]
                  refine wpAnyH_take (i := 2) (v := .pointer (some ⟨d8, k, none⟩)) rfl (by kernel_rfl) (by kernel_rfl) (by kernel_rfl) (fun _ _ _ h => h) (Or.inl ⟨by rfl, fun w _ => by go_simp⟩) hHeld ?_
                  simp only [Act.put, List.setIfInBounds_toArray, List.set_cons_zero, List.set_cons_succ, List.getElem_toArray, List.getElem_cons_zero, List.getElem_cons_succ]
                  refine wpAnyH_take (i := 3) (v := .string X) rfl (by kernel_rfl) (by kernel_rfl) (by kernel_rfl) (fun _ _ _ h => h) (Or.inl ⟨by rfl, fun w hS => by have h1 := hS.1; go_simp⟩) hHeld ?_
                  simp only [Act.put, List.setIfInBounds_toArray, List.set_cons_zero, List.set_cons_succ, List.getElem_toArray, List.getElem_cons_zero, List.getElem_cons_succ]
                  refine wpAnyH_take (i := 4) (v := u5) rfl (by kernel_rfl) (by kernel_rfl) (by kernel_rfl) (fun _ _ _ h => h) (Or.inl ⟨by rfl, fun w _ => by go_simp⟩) hHeld ?_
                  simp only [Act.put, List.setIfInBounds_toArray, List.set_cons_zero, List.set_cons_succ, List.getElem_toArray, List.getElem_cons_zero, List.getElem_cons_succ]
                  refine wpAnyH_take (i := 5) (v := .string X) rfl (by kernel_rfl) (by kernel_rfl) (by kernel_rfl) (fun _ _ _ h => h) (Or.inl ⟨by rfl, fun w hS => by rw [← HSE.out]; have h1 := owns_string (P := Try.prog) hS.2 72 9 5 Try.underlying72 Try.underlying5 Try.underlying9; go_simp⟩) hHeld ?_
                  simp only [Act.put, List.setIfInBounds_toArray, List.set_cons_zero, List.set_cons_succ, List.getElem_toArray, List.getElem_cons_zero, List.getElem_cons_succ]
                  refine wpAnyH_take (i := 6) (v := .bool true) rfl (by kernel_rfl) (by kernel_rfl) (by kernel_rfl) (fun _ _ _ h => h) (Or.inl ⟨by rfl, fun w _ => by go_simp⟩) hHeld ?_
                  simp only [Act.put, List.setIfInBounds_toArray, List.set_cons_zero, List.set_cons_succ, List.getElem_toArray, List.getElem_cons_zero, List.getElem_cons_succ]
                  refine wpAnyH_done (by kernel_rfl) ?_ _
                  refine NoPanic.normal ?_
                  have ck9 : wr.drew.cell? ⟨d8 + 1, k, none⟩ = some (.int .i64 f) := CK9.out
                  go_wp2
                  go_ret
                  exact ⟨rfl, bdrew BL.out 1⟩
                · rw [if_neg hXE] at hR
                  have HR := Lib.hid hR
                  have DX : (X.toList == E.toList) = false := str_ne hXE
                  clear hR
                  refine wp_region_noPanic ?_
                  refine wp_region_held_drew (S := fun w' => w'.cell? ⟨d8, k, none⟩ = some (.string X) ∧ w'.ownsRow w.heap.size 5 1 u5 L.length (L.map (.int .u8))) (by kernel_rfl) ⟨CK8.out, OW.out⟩ (fun hHeld => ?_)
                  refine wpAnyH_take (i := 0) (v := .slice (some ⟨d8, 0, none⟩) 14 14) rfl (by kernel_rfl) (by kernel_rfl) (by kernel_rfl) (fun _ _ _ h => h) (Or.inl ⟨by rfl, fun w _ => by go_simp⟩) hHeld ?_
                  simp only [Act.put, List.setIfInBounds_toArray, List.set_cons_zero, List.set_cons_succ, List.getElem_toArray, List.getElem_cons_zero, List.getElem_cons_succ]
                  refine wpAnyH_take (i := 1) (v := .int .i64 k) rfl (by kernel_rfl) (by kernel_rfl) (by kernel_rfl) (fun _ _ _ h => h) (Or.inl ⟨by rfl, fun w _ => by go_simp⟩) hHeld ?_
                  simp only [Act.put, List.setIfInBounds_toArray, List.set_cons_zero, List.set_cons_succ, List.getElem_toArray, List.getElem_cons_zero, List.getElem_cons_succ]
                  refine wpAnyH_take (i := 2) (v := .pointer (some ⟨d8, k, none⟩)) rfl (by kernel_rfl) (by kernel_rfl) (by kernel_rfl) (fun _ _ _ h => h) (Or.inl ⟨by rfl, fun w _ => by go_simp⟩) hHeld ?_
                  simp only [Act.put, List.setIfInBounds_toArray, List.set_cons_zero, List.set_cons_succ, List.getElem_toArray, List.getElem_cons_zero, List.getElem_cons_succ]
                  refine wpAnyH_take (i := 3) (v := .string X) rfl (by kernel_rfl) (by kernel_rfl) (by kernel_rfl) (fun _ _ _ h => h) (Or.inl ⟨by rfl, fun w hS => by have h1 := hS.1; go_simp⟩) hHeld ?_
                  simp only [Act.put, List.setIfInBounds_toArray, List.set_cons_zero, List.set_cons_succ, List.getElem_toArray, List.getElem_cons_zero, List.getElem_cons_succ]
                  refine wpAnyH_take (i := 4) (v := u5) rfl (by kernel_rfl) (by kernel_rfl) (by kernel_rfl) (fun _ _ _ h => h) (Or.inl ⟨by rfl, fun w _ => by go_simp⟩) hHeld ?_
                  simp only [Act.put, List.setIfInBounds_toArray, List.set_cons_zero, List.set_cons_succ, List.getElem_toArray, List.getElem_cons_zero, List.getElem_cons_succ]
                  refine wpAnyH_take (i := 5) (v := .string E) rfl (by kernel_rfl) (by kernel_rfl) (by kernel_rfl) (fun _ _ _ h => h) (Or.inl ⟨by rfl, fun w hS => by rw [← HSE.out]; have h1 := owns_string (P := Try.prog) hS.2 72 9 5 Try.underlying72 Try.underlying5 Try.underlying9; go_simp⟩) hHeld ?_
                  simp only [Act.put, List.setIfInBounds_toArray, List.set_cons_zero, List.set_cons_succ, List.getElem_toArray, List.getElem_cons_zero, List.getElem_cons_succ]
                  refine wpAnyH_take (i := 6) (v := .bool false) rfl (by kernel_rfl) (by kernel_rfl) (by kernel_rfl) (fun _ _ _ h => h) (Or.inl ⟨by rfl, fun w _ => by go_simp⟩) hHeld ?_
                  simp only [Act.put, List.setIfInBounds_toArray, List.set_cons_zero, List.set_cons_succ, List.getElem_toArray, List.getElem_cons_zero, List.getElem_cons_succ]
                  refine wpAnyH_done (by kernel_rfl) ?_ _
                  refine NoPanic.normal ?_
                  have ck9 : wr.drew.cell? ⟨d8 + 1, k, none⟩ = some (.int .i64 f) := CK9.out
                  go_wp2
                  go_roundw
                  case rel => exact ⟨k + 1, by omega, by go_num, HR.out, O8.out, O9.out, OW.out, bdrew BL.out 1⟩
                  case measure => simp [intOf]; omega
          · have hge2 : ¬ s.size ≤ p := by omega
            have g := byN_get s p hlt2
            have LT := hLt.out k (by omega)
            rw [htb.out k (by omega), ← hp] at LT
            obtain ⟨x, hx⟩ : ∃ x, byN s p = x := ⟨_, rfl⟩
            have hbd := byN_bd s p
            rw [hx] at g LT hbd
            have LT := Lib.hid LT
            have HP := Lib.hid hp
            clear hx htb hLt hp
            by_cases h1 : 65 ≤ x
            · have D1 : decide (x ≥ 65) = true := decide_eq_true h1
              by_cases h2 : x ≤ 90
              · have D2 : decide (x ≤ 90) = true := decide_eq_true h2
                have EN := Lib.hid (show (x + 32) % 256 = smN x by unfold smN; rw [if_pos ⟨h1, h2⟩]; omega)
                clear h1 h2 hbd
                go_wp2_with (at_builtin; refine app1k rfl (.tmp 44) (.tmp 46) 72 rfl w.heap.size 5 (.int .u8 0) 1 Try.underlying72 (by kernel_rfl) rfl _ _ _ rfl OW.out _ rfl _ rfl (by omega) (by unfold maxLen; omega) zw ?_; intro v' w5 hown1 hC1 hg1 hz1; have O1 := Lib.hid hown1; have C1 := Lib.hid hC1; clear hown1 hC1 hg1)
                go_roundw
                case rel => exact ⟨k + 1, p + 1, (by have := HP.out; omega), (by have := HP.out; omega), by go_num, by rw [LT.out, ← EN.out]; exact owns_eq O1.out rfl (by simp), bchg BL.out C1.out zw (fun g hg => (owns_blk OW.out hg).1)⟩
                case measure => simp [intOf]; omega
              · have D2 : decide (x ≤ 90) = false := decide_eq_false h2
                have EN := Lib.hid (show x = smN x by unfold smN; rw [if_neg (by omega)])
                clear h1 h2 hbd
                go_wp2_with (at_builtin; refine app1k rfl (.tmp 44) (.tmp 46) 72 rfl w.heap.size 5 (.int .u8 0) 1 Try.underlying72 (by kernel_rfl) rfl _ _ _ rfl OW.out _ rfl _ rfl (by omega) (by unfold maxLen; omega) zw ?_; intro v' w5 hown1 hC1 hg1 hz1; have O1 := Lib.hid hown1; have C1 := Lib.hid hC1; clear hown1 hC1 hg1)
                go_roundw
                case rel => exact ⟨k + 1, p + 1, (by have := HP.out; omega), (by have := HP.out; omega), by go_num, by rw [LT.out, ← EN.out]; exact owns_eq O1.out rfl (by simp), bchg BL.out C1.out zw (fun g hg => (owns_blk OW.out hg).1)⟩
                case measure => simp [intOf]; omega
            · have D1 : decide (x ≥ 65) = false := decide_eq_false h1
              have EN := Lib.hid (show x = smN x by unfold smN; rw [if_neg (by omega)])
              clear h1 hbd
              go_wp2_with (at_builtin; refine app1k rfl (.tmp 44) (.tmp 46) 72 rfl w.heap.size 5 (.int .u8 0) 1 Try.underlying72 (by kernel_rfl) rfl _ _ _ rfl OW.out _ rfl _ rfl (by omega) (by unfold maxLen; omega) zw ?_; intro v' w5 hown1 hC1 hg1 hz1; have O1 := Lib.hid hown1; have C1 := Lib.hid hC1; clear hown1 hC1 hg1)
              go_roundw
              case rel => exact ⟨k + 1, p + 1, (by have := HP.out; omega), (by have := HP.out; omega), by go_num, by rw [LT.out, ← EN.out]; exact owns_eq O1.out rfl (by simp), bchg BL.out C1.out zw (fun g hg => (owns_blk OW.out hg).1)⟩
              case measure => simp [intOf]; omega
    · have hge : ¬ s.size ≤ k := by omega
      have g := byN_get s k hlt
      obtain ⟨x, hx⟩ : ∃ x, byN s k = x := ⟨_, rfl⟩
      rw [hx] at g
      have HL := Lib.hid (show lastAt s 46 (k + 1) = if x = 46 then (k : Int) else lastAt s 46 k by rw [lastAt, hx])
      obtain ⟨l, hl⟩ : ∃ l, lastAt s 46 k = l := ⟨_, rfl⟩
      rw [hl] at HL ⊢
      clear hx hl
      by_cases e : x = 46
      · subst e
        go_wp2
        go_round
        case rel => exact ⟨k + 1, by omega, by go_num, by rw [HL.out, if_pos rfl]⟩
        case measure => simp [intOf]; omega
      · have D : (x == 46) = false := by rw [beq_eq_false_iff_ne]; exact e
        go_wp2
        go_round
        case rel => exact ⟨k + 1, by omega, by go_num, by rw [HL.out, if_neg e]⟩
        case measure => simp [intOf]; omega
end Go.Proofs.Ytlhcjnjajkfahaa

/- sniff.Named, walked. -/
import Derived.Test.YtlhcjnjajkfahaaNG
import Derived.Test.YtlhcjnjajkfahaaNF
import Derived.Test.YtlhcjnjajkfahaaNB
namespace Go.Proofs.Ytlhcjnjajkfahaa
open Go.RowKit Go.Maps
set_option linter.unusedVariables false
set_option linter.unusedSimpArgs false
def ordFrom : List Int → ByteArray → Int
  | [], e => othF e.data.toList
  | f :: fs, e => if extS f = e then f else ordFrom fs e
def endS (s : ByteArray) : ByteArray := strOf (smallL (s.extract ((lastAt s 46 s.size).toNat + 1) s.size))
def namedB (s : ByteArray) : Int := if lastAt s 46 s.size < 0 then 0 else ordFrom ordL (endS s)
theorem str_ne {a b : ByteArray} (h : ¬ a = b) : (a.toList == b.toList) = false := by
  rw [beq_eq_false_iff_ne]
  intro e
  rw [ByteArray.toList_eq, ByteArray.toList_eq] at e
  exact h (ByteArray.ext (Array.ext' e))
theorem strOf_len (l : List Int) : (strOf l).size = l.length := by
  unfold strOf
  suffices h : ∀ (l : List Int) (r : ByteArray), (l.foldl (fun r n => r.push (UInt8.ofNat n.toNat)) r).size = r.size + l.length by
    simpa using h l ByteArray.empty
  intro l
  induction l with
  | nil => intro r; simp
  | cons x l ih => intro r; rw [List.foldl_cons, ih, ByteArray.size_push, List.length_cons]; omega
theorem smallL_len (s : ByteArray) : (smallL s).length = s.size := by unfold smallL; simp
theorem last_cases (s : ByteArray) (c : Int) (k : Nat) : lastAt s c k = -1 ∨ ∃ m, m < k ∧ lastAt s c k = (m : Int) := by
  induction k with
  | zero => exact Or.inl rfl
  | succ k ih =>
    rw [lastAt]
    by_cases e : byN s k = c
    · rw [if_pos e]; exact Or.inr ⟨k, by omega, rfl⟩
    · rw [if_neg e]
      rcases ih with h | ⟨m, h1, h2⟩
      · exact Or.inl h
      · exact Or.inr ⟨m, by omega, h2⟩
set_option maxRecDepth 100000 in
theorem ord_ix2 (k : Nat) (h : k < 8) (w : World) : (Instr.index 83 (.agg ordV.toArray) (.int .i64 k)).run Try.prog w = .ok (.int .i64 (ordL.getD k 0)) w := by
  rcases (show k = 0 ∨ k = 1 ∨ k = 2 ∨ k = 3 ∨ k = 4 ∨ k = 5 ∨ k = 6 ∨ k = 7 by omega) with rfl | rfl | rfl | rfl | rfl | rfl | rfl | rfl <;> kernel_rfl
theorem ord_drop (k : Nat) (h : k < 8) : ordL.drop k = ordL.getD k 0 :: ordL.drop (k + 1) ∧ (ordL.getD k 0 != 0) = true := by
  rcases (show k = 0 ∨ k = 1 ∨ k = 2 ∨ k = 3 ∨ k = 4 ∨ k = 5 ∨ k = 6 ∨ k = 7 by omega) with rfl | rfl | rfl | rfl | rfl | rfl | rfl | rfl <;> exact ⟨rfl, rfl⟩
set_option maxRecDepth 100000 in
set_option maxHeartbeats 8000000 in
theorem named_any (s : ByteArray) (w : World) (hs : s.size ≤ 140737488355328) : Calls Try.prog 26 #[.string s] w (fun e w' => e = .returned (.tuple #[.int .i64 (namedB s), .bool (namedB s != 0)]) ∧ Below w.heap.size w w') := by
  have HL := Lib.hid (fun w0 => last_any s 46 w0 (by omega))
  obtain ⟨a, ha⟩ : ∃ a, lastAt s 46 s.size = a := ⟨_, rfl⟩
  have HS := Lib.hid (fun t (ht : t.size ≤ 140737488355328) w0 => small_any t w0 (by omega))
  rw [ha] at HL
  rcases last_cases s 46 s.size with h | ⟨m, hm, h⟩
  · obtain rfl : a = -1 := by omega
    have EN := Lib.hid (show namedB s = 0 by unfold namedB; rw [h]; rfl)
    rw [EN.out]
    clear h ha
    go_enter Try.func26, Try.ntmps26
    go_wp2_with ((go_at_call 64; (with_reducible refine (HL.out _).mono ?_); rintro e w1 ⟨rfl, rfl⟩))
    go_ret2
    exact ⟨rfl, Below.refl _ _⟩
  · obtain rfl : a = (m : Int) := by omega
    obtain ⟨R, hR⟩ : ∃ R, namedB s = R := ⟨_, rfl⟩
    have EN := Lib.hid (show ordFrom ordL (strOf (smallL (s.extract (m + 1) s.size))) = R by rw [← hR]; unfold namedB endS; rw [h, if_neg (by omega)]; rfl)
    rw [hR]
    clear h ha hR
    have D0 : decide ((m : Int) < 0) = false := by rw [decide_eq_false_iff_not]; omega
    have eW : wrap64 ((m : Int) + 1) = (m : Int) + 1 := IntWalk.wrap64_in _ ⟨by omega, by omega⟩
    have eW' : IntKind.i64.wrap ((m : Int) + 1) = (m : Int) + 1 := (IntWalk.i64_left _).trans eW
    have hge1 : m + 1 ≤ s.size := by omega
    have hsz : (s.extract (m + 1) s.size).size ≤ 140737488355328 := by simp; omega
    go_enter Try.func26, Try.ntmps26
    have BL := Lib.hid (Below.refl w.heap.size w)
    go_wp2_with (first
      | ((go_at_call 64; (with_reducible refine (HL.out _).mono ?_); rintro e w1 ⟨rfl, rfl⟩))
      | ((go_at_call 65; (with_reducible refine (HS.out _ hsz _).mono ?_); rintro e w2 ⟨rfl, hb2⟩); have BL := Lib.hid (bthen hb2 BL.out (BL.out.size)); clear hb2; obtain ⟨E, hE⟩ : ∃ E, strOf (smallL (s.extract (m + 1) s.size)) = E := ⟨_, rfl⟩; have hEs : E.size ≤ 140737488355328 := (by rw [← hE, strOf_len, smallL_len]; exact hsz); rw [hE] at EN ⊢; clear hE)
      | ((go_at_call 52; (with_reducible refine (order_any _).mono ?_); rintro e w3 ⟨rfl, hb3⟩); have BL := Lib.hid (bthen hb3 BL.out (BL.out.size)); clear hb3))
    go_loopw [7, 20] (fun _ c wr => ∃ k : Nat, k ≤ 8 ∧ c = .int .i64 k ∧ ordFrom (ordL.drop k) E = R ∧ Below w1.heap.size w1 wr) (fun _ c _ => 8 - (intOf c).toNat)
    case atStart => exact ⟨0, by omega, rfl, EN.out, BL.out⟩
    case round =>
      obtain ⟨k, hk, rfl, hR, hb⟩ := hrel
      have BK := Lib.hid hb
      clear hb BL
      by_cases hlt : k < 8
      rotate_left
      · have hge : 8 ≤ k := by omega
        have hR2 : othF E.data.toList = R := by rw [← hR, show k = 8 by omega]; rfl
        have HM := Lib.hid (show Maps.has otD (.string E.data.toList) = (R != 0) by rw [otD_has, hR2])
        have HA := Lib.hid (show otD.atKey (.string E.data.toList) (.lit (.int .i64 0)) = .lit (.int .i64 R) by rw [otD_at, hR2])
        clear hR hR2
        go_wp2_with (first
          | ((go_at_call 66; (with_reducible refine (others_any _).mono ?_); rintro e w4 ⟨rfl, hown, hb4⟩); have BK := Lib.hid (bthen hb4 BK.out (BK.out.size)); clear hb4)
          | (at_lookup; refine wpList_lookup_own_ok_int _ rfl _ _ 89 rfl 9 3 .i64 law30 Try.underlying89 Try.underlying3 (zero30 _) _ _ _ rfl hown _ _ rfl (WideMaps.keyOf_string_mk Try.underlying9 (show E.size ≤ maxLen by unfold maxLen; omega)) ?_; intro c hat hwc; rw [HM.out]; have hat := hat.symm.trans HA.out; obtain rfl : c = R := (by injection hat with hat; injection hat)))
        go_ret2
        exact ⟨rfl, BK.out⟩
      · have hge : ¬ 8 ≤ k := by omega
        obtain ⟨hd, hn⟩ := ord_drop k hlt
        have ck := fun w0 => ord_ix2 k hlt w0
        obtain ⟨f, hf⟩ : ∃ f, ordL.getD k 0 = f := ⟨_, rfl⟩
        rw [hf] at ck hd hn
        have HX := Lib.hid (fun w0 => ext_any f w0)
        obtain ⟨X, hX⟩ : ∃ X, extS f = X := ⟨_, rfl⟩
        rw [hd, ordFrom, hX] at hR
        rw [hX] at HX
        clear hf hX hd
        by_cases hXE : X = E
        · rw [if_pos hXE] at hR
          subst hXE hR
          have HN := Lib.hid hn
          clear hn
          go_wp2_with ((go_at_call 28; (with_reducible refine (HX.out _).mono ?_); rintro e w4 ⟨rfl, rfl⟩))
          go_ret2
          exact ⟨by rw [HN.out]; rfl, BK.out⟩
        · rw [if_neg hXE] at hR
          have HR := Lib.hid hR
          have DX : (X.toList == E.toList) = false := str_ne hXE
          clear hR hn
          go_wp2_with ((go_at_call 28; (with_reducible refine (HX.out _).mono ?_); rintro e w4 ⟨rfl, rfl⟩))
          go_roundw
          case rel => exact ⟨k + 1, by omega, by go_num, HR.out, BK.out⟩
          case measure => simp [intOf]; omega
end Go.Proofs.Ytlhcjnjajkfahaa
